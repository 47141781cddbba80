/- Several texts of this claim, one behind the other: DfK, DfL, DfM. -/
import Derived.Test.YtjjpiedcdcdejaaMgD
/- What Make computes, plain: the longest pieces, and the reference's ones. -/
set_option linter.unusedVariables false
set_option linter.unusedSimpArgs false
namespace Go.Proofs.Ytjjpiedcdcdejaa.Pure
open Go.RowKit Go.Proofs.Ytjjpiedcdcdejaa.Pb Go.Proofs.YtjjpiedcdcdejaaW.PrintWords Go.Proofs.YtjjpiedcdcdejaaW.PrintLast Go.Proofs.YtjjpiedcdcdejaaW.PrintMore Go.Proofs.Ytjjpiedcdcdejaa.Gw Go.Proofs.Ytjjpiedcdcdejaa.Df
theorem cml_spec (a b : ByteArray) : ∀ (k i : Nat), i ≤ min a.size b.size → min a.size b.size + 1 ≤ i + k →
    (∀ j, i ≤ j → j < i + cml k a b i → bt a (j : Int) = bt b (j : Int)) ∧ (i + cml k a b i < a.size → i + cml k a b i < b.size → bt a ((i + cml k a b i : Nat) : Int) ≠ bt b ((i + cml k a b i : Nat) : Int))
  | 0, i, h, h2 => by omega
  | k + 1, i, h, h2 => by
    unfold cml
    split
    · rename_i hc
      obtain ⟨h3, h4⟩ := cml_spec a b k (i + 1) (by omega) (by omega)
      rw [show i + (cml k a b (i + 1) + 1) = i + 1 + cml k a b (i + 1) by omega]
      refine ⟨fun j hj hj2 => ?_, h4⟩
      by_cases e : j = i
      · subst e; exact hc.2.2
      · exact h3 j (by omega) hj2
    · rename_i hc
      refine ⟨fun j hj hj2 => by omega, fun ha hb e => hc ⟨by omega, by omega, by simpa using e⟩⟩
theorem cm_spec (a b : ByteArray) : (∀ j, j < cm a b → bt a (j : Int) = bt b (j : Int)) ∧ (cm a b < a.size → cm a b < b.size → bt a (cm a b : Int) ≠ bt b (cm a b : Int)) := by
  have h := cml_spec a b (min a.size b.size + 1) 0 (Nat.zero_le _) (by omega)
  simp only [Nat.zero_add] at h
  exact ⟨fun j hj => h.1 j (Nat.zero_le _) hj, h.2⟩
theorem like_spec (s tg : ByteArray) (k a : Nat) (hk : k ≤ s.size) (ha : a ≤ tg.size) :
    k + like s tg k a ≤ s.size ∧ a + like s tg k a ≤ tg.size ∧ (∀ j, j < like s tg k a → bt s ((k + j : Nat) : Int) = bt tg ((a + j : Nat) : Int)) ∧
    (k + like s tg k a < s.size → a + like s tg k a < tg.size → bt s ((k + like s tg k a : Nat) : Int) ≠ bt tg ((a + like s tg k a : Nat) : Int)) := by
  have h1 := cm_le (s.extract k s.size) (tg.extract a tg.size)
  obtain ⟨h2, h3⟩ := cm_spec (s.extract k s.size) (tg.extract a tg.size)
  have e : like s tg k a = cm (s.extract k s.size) (tg.extract a tg.size) := rfl
  rw [e]
  generalize cm (s.extract k s.size) (tg.extract a tg.size) = n at *
  have z1 : (s.extract k s.size).size = s.size - k := by rw [ByteArray.size_extract]; omega
  have z2 : (tg.extract a tg.size).size = tg.size - a := by rw [ByteArray.size_extract]; omega
  rw [z1, z2] at h1
  rw [z1, z2] at h3
  refine ⟨by omega, by omega, fun j hj => ?_, fun hs ht => ?_⟩
  · have := h2 j hj
    rwa [bt_ext s k s.size j (by omega) (Nat.le_refl _), bt_ext tg a tg.size j (by omega) (Nat.le_refl _)] at this
  · have := h3 (by omega) (by omega)
    rwa [bt_ext s k s.size n (by omega) (Nat.le_refl _), bt_ext tg a tg.size n (by omega) (Nat.le_refl _)] at this
/-- A piece that fits is not longer than what is alike. -/
theorem like_ge (s tg : ByteArray) (k a n : Nat) (hs : k + n ≤ s.size) (ha : a + n ≤ tg.size) (h : ∀ j, j < n → bt s ((k + j : Nat) : Int) = bt tg ((a + j : Nat) : Int)) : n ≤ like s tg k a := by
  obtain ⟨h1, h2, h3, h4⟩ := like_spec s tg k a (by omega) (by omega)
  by_cases e : n ≤ like s tg k a
  · exact e
  · exact absurd (h _ (by omega)) (h4 (by omega) (by omega))
theorem ext_eq_iff (s t : ByteArray) (k a n : Nat) (hs : k + n ≤ s.size) (ha : a + n ≤ t.size) : s.extract k (k + n) = t.extract a (a + n) ↔ ∀ j, j < n → bt s ((k + j : Nat) : Int) = bt t ((a + j : Nat) : Int) := by
  have z1 : (s.extract k (k + n)).size = n := by rw [ByteArray.size_extract]; omega
  have z2 : (t.extract a (a + n)).size = n := by rw [ByteArray.size_extract]; omega
  constructor
  · intro h j hj
    rw [← bt_ext s k (k + n) j (by omega) (by omega), ← bt_ext t a (a + n) j (by omega) (by omega), h]
  · intro h
    refine ext_bt (by rw [z1, z2]) fun j hj => ?_
    rw [z1] at hj
    rw [bt_ext s k (k + n) j (by omega) (by omega), bt_ext t a (a + n) j (by omega) (by omega)]
    exact h j hj
theorem ext_like (s t : ByteArray) (k a n : Nat) (hs : k + n ≤ s.size) (ha : a + n ≤ t.size) : s.extract k (k + n) = t.extract a (a + n) ↔ n ≤ like s t k a := by
  rw [ext_eq_iff s t k a n hs ha]
  constructor
  · exact like_ge s t k a n hs ha
  · intro h j hj
    exact (like_spec s t k a (by omega) (by omega)).2.2.1 j (by omega)
/-- The first of the longest ones, among d places from k on. -/
def lg (s tg : ByteArray) (a : Nat) : Nat → Nat → Int → Int → Int × Int
  | 0, _, f, m => (f, m)
  | d + 1, k, f, m => if m < (like s tg k a : Int) then lg s tg a d (k + 1) k (like s tg k a) else lg s tg a d (k + 1) f m
theorem lg_succ (s tg : ByteArray) (a d k : Nat) (f m : Int) : lg s tg a (d + 1) k f m = if m < (like s tg k a : Int) then lg s tg a d (k + 1) k (like s tg k a) else lg s tg a d (k + 1) f m := rfl
theorem lg_add (s tg : ByteArray) (a : Nat) : ∀ (d e k : Nat) (f m : Int), lg s tg a (d + e) k f m = lg s tg a e (k + d) (lg s tg a d k f m).1 (lg s tg a d k f m).2
  | 0, e, k, f, m => by rw [Nat.zero_add]; rfl
  | d + 1, e, k, f, m => by
    rw [show d + 1 + e = (d + e) + 1 by omega, lg_succ, lg_succ]
    split
    · rw [lg_add s tg a d e (k + 1), show k + 1 + d = k + (d + 1) by omega]
    · rw [lg_add s tg a d e (k + 1), show k + 1 + d = k + (d + 1) by omega]
/-- The first of the longest ones of all places ahead of k. -/
def IsB (s tg : ByteArray) (a k : Nat) (f m : Int) : Prop :=
  (m = 0 ∧ f = 0 ∧ ∀ j, j < k → like s tg j a = 0) ∨ ∃ p n : Nat, f = p ∧ m = n ∧ 0 < n ∧ p < k ∧ like s tg p a = n ∧ (∀ j, j < k → like s tg j a ≤ n) ∧ ∀ j, j < p → like s tg j a < n
theorem lg_isB (s tg : ByteArray) (a : Nat) : ∀ (d k : Nat) (f m : Int), IsB s tg a k f m → IsB s tg a (k + d) (lg s tg a d k f m).1 (lg s tg a d k f m).2
  | 0, k, f, m, h => h
  | d + 1, k, f, m, h => by
    unfold lg
    rw [show k + (d + 1) = k + 1 + d by omega]
    split
    · rename_i hlt
      refine lg_isB s tg a d (k + 1) _ _ (.inr ⟨k, _, rfl, rfl, ?_, by omega, rfl, fun j hj => ?_, fun j hj => ?_⟩)
      · rcases h with ⟨rfl, _⟩ | ⟨p, n, _, rfl, h, _⟩ <;> omega
      · by_cases e : j = k
        · subst e; exact Nat.le_refl _
        · rcases h with ⟨rfl, _, h⟩ | ⟨p, n, _, rfl, _, _, _, h, _⟩
          · have := h j (by omega); omega
          · have := h j (by omega); omega
      · rcases h with ⟨rfl, _, h⟩ | ⟨p, n, _, rfl, _, _, _, h, _⟩
        · have := h j (by omega); omega
        · have := h j (by omega); omega
    · rename_i hlt
      refine lg_isB s tg a d (k + 1) _ _ ?_
      rcases h with ⟨rfl, rfl, h⟩ | ⟨p, n, rfl, rfl, h1, h2, h3, h4, h5⟩
      · refine .inl ⟨rfl, rfl, fun j hj => ?_⟩
        by_cases e : j = k
        · subst e; omega
        · exact h j (by omega)
      · refine .inr ⟨p, n, rfl, rfl, h1, by omega, h3, fun j hj => ?_, h5⟩
        by_cases e : j = k
        · subst e; omega
        · exact h4 j (by omega)
def lgAt (s tg : ByteArray) (a : Nat) : Int × Int := lg s tg a s.size 0 0 0
theorem lgAt_isB (s tg : ByteArray) (a : Nat) : IsB s tg a s.size (lgAt s tg a).1 (lgAt s tg a).2 := by
  have := lg_isB s tg a s.size 0 0 0 (.inl ⟨rfl, rfl, fun j hj => by omega⟩)
  rwa [Nat.zero_add] at this
theorem isB_unique {s tg : ByteArray} {a k : Nat} {f m f' m' : Int} (h : IsB s tg a k f m) (h' : IsB s tg a k f' m') : f = f' ∧ m = m' := by
  rcases h with ⟨rfl, rfl, h⟩ | ⟨p, n, rfl, rfl, h1, h2, h3, h4, h5⟩
  · rcases h' with ⟨rfl, rfl, _⟩ | ⟨p', n', rfl, rfl, g1, g2, g3, g4, g5⟩
    · exact ⟨rfl, rfl⟩
    · have := h p' g2; omega
  · rcases h' with ⟨rfl, rfl, h⟩ | ⟨p', n', rfl, rfl, g1, g2, g3, g4, g5⟩
    · have := h p h2; omega
    · have e1 := h4 p' g2
      have e2 := g4 p h2
      have : ¬ p < p' := fun e => by have := g5 p e; omega
      have : ¬ p' < p := fun e => by have := h5 p' e; omega
      constructor <;> omega
/-- What is taken beside the longest of all. -/
def Rel4 (x y : Int × Int) : Prop := (4 ≤ x.2 ∧ y = x) ∨ (x = (0, 0) ∧ y.2 < 4)
theorem lg_stay (s tg : ByteArray) (a : Nat) : ∀ (d k : Nat) (f m : Int), (∀ j : Nat, j < k + d → (like s tg j a : Int) ≤ m) → lg s tg a d k f m = (f, m)
  | 0, k, f, m, h => rfl
  | d + 1, k, f, m, h => by
    unfold lg
    rw [if_neg (by have := h k (by omega); omega)]
    exact lg_stay s tg a d (k + 1) f m (fun j hj => h j (by omega))
theorem lg_low (s tg : ByteArray) (a : Nat) : ∀ (d k : Nat) (f m : Int), (∀ j : Nat, k ≤ j → j < k + d → like s tg j a < 4) → m < 4 → (lg s tg a d k f m).2 < 4
  | 0, k, f, m, h, hm => hm
  | d + 1, k, f, m, h, hm => by
    have h0 := h k (Nat.le_refl _) (by omega)
    unfold lg
    split
    · exact lg_low s tg a d (k + 1) _ _ (fun j h1 h2 => h j (by omega) (by omega)) (by omega)
    · exact lg_low s tg a d (k + 1) _ _ (fun j h1 h2 => h j (by omega) (by omega)) hm
theorem lg_hi (s tg : ByteArray) (a : Nat) : ∀ (d k : Nat) (f m : Int), (∀ j : Nat, k ≤ j → j < k + d → like s tg j a < 4) → 4 ≤ m → lg s tg a d k f m = (f, m)
  | 0, k, f, m, h, hm => rfl
  | d + 1, k, f, m, h, hm => by
    have h0 := h k (Nat.le_refl _) (by omega)
    unfold lg
    rw [if_neg (by omega)]
    exact lg_hi s tg a d (k + 1) _ _ (fun j h1 h2 => h j (by omega) (by omega)) hm
def occF (s q : ByteArray) (k d : Nat) : List Int := ((List.range' k d).filter (fun j => decide (s.extract j (j + 4) = q))).map (fun j : Nat => (j : Int))
theorem occ_eq (s q : ByteArray) (n : Nat) : occ s q n = occF s q 0 n := by rw [occ, occF, List.range_eq_range']
theorem occF_succ (s q : ByteArray) (k d : Nat) : occF s q k (d + 1) = if s.extract k (k + 4) = q then (k : Int) :: occF s q (k + 1) d else occF s q (k + 1) d := by
  unfold occF
  rw [List.range'_succ, List.filter_cons]
  by_cases h : s.extract k (k + 4) = q <;> simp [h]
theorem best_lg (s tg : ByteArray) (a : Nat) (ha : a + 4 ≤ tg.size) : ∀ (d k : Nat) (f m : Int) (f' m' : Int), k + d + 3 ≤ s.size → Rel4 (f, m) (f', m') → (∀ j : Nat, j < k → (like s tg j a : Int) ≤ m') →
    Rel4 (best s tg a (occF s (tg.extract a (a + 4)) k d) f m) (lg s tg a d k f' m')
  | 0, k, f, m, f', m', hk, hr, hj => hr
  | d + 1, k, f, m, f', m', hk, hr, hj => by
    have hx := ext_like s tg k a 4 (by omega) ha
    rw [occF_succ]
    unfold lg
    by_cases hl : 4 ≤ like s tg k a
    · rw [if_pos (hx.2 hl)]
      rcases hr with ⟨hm, hr⟩ | ⟨hr, hm⟩
      · injection hr with e1 e2; subst e1 e2
        have hm : 4 ≤ m' := hm
        by_cases hlt : m' < (like s tg k a : Int)
        · rw [if_pos hlt]
          by_cases he : (a : Int) + (like s tg k a : Int) = tg.size
          · rw [best_yes_end rfl hlt he, lg_stay s tg a d (k + 1) _ _ (fun j hj2 => by have := like_le s tg j a; omega)]
            exact .inl ⟨by show (4 : Int) ≤ (like s tg k a : Int); omega, rfl⟩
          · rw [best_yes rfl hlt he]
            refine best_lg s tg a ha d (k + 1) _ _ _ _ (by omega) (.inl ⟨by show (4 : Int) ≤ (like s tg k a : Int); omega, rfl⟩) (fun j hj2 => ?_)
            by_cases e : j = k
            · subst e; exact Int.le_refl _
            · have := hj j (by omega); omega
        · rw [if_neg hlt]
          by_cases he : (a : Int) + m' = tg.size
          · rw [best_no_end rfl hlt he, lg_stay s tg a d (k + 1) _ _ (fun j hj2 => by have := like_le s tg j a; omega)]
            exact .inl ⟨hm, rfl⟩
          · rw [best_no rfl hlt he]
            refine best_lg s tg a ha d (k + 1) _ _ _ _ (by omega) (.inl ⟨hm, rfl⟩) (fun j hj2 => ?_)
            by_cases e : j = k
            · subst e; omega
            · exact hj j (by omega)
      · injection hr with e1 e2; subst e1 e2
        have hm : m' < 4 := hm
        rw [if_pos (by omega)]
        by_cases he : (a : Int) + (like s tg k a : Int) = tg.size
        · rw [best_yes_end rfl (by omega) he, lg_stay s tg a d (k + 1) _ _ (fun j hj2 => by have := like_le s tg j a; omega)]
          exact .inl ⟨by show (4 : Int) ≤ (like s tg k a : Int); omega, rfl⟩
        · rw [best_yes rfl (by omega) he]
          refine best_lg s tg a ha d (k + 1) _ _ _ _ (by omega) (.inl ⟨by show (4 : Int) ≤ (like s tg k a : Int); omega, rfl⟩) (fun j hj2 => ?_)
          by_cases e : j = k
          · subst e; exact Int.le_refl _
          · have := hj j (by omega); omega
    · rw [if_neg (fun e => hl (hx.1 e))]
      split
      · rename_i hlt
        rcases hr with ⟨hm, hr⟩ | ⟨hr, hm⟩
        · injection hr with e1 e2; subst e1 e2
          have hm : 4 ≤ m' := hm
          omega
        · refine best_lg s tg a ha d (k + 1) _ _ _ _ (by omega) (.inr ⟨hr, by show (like s tg k a : Int) < 4; omega⟩) (fun j hj2 => ?_)
          by_cases e : j = k
          · subst e; exact Int.le_refl _
          · have := hj j (by omega); omega
      · rename_i hlt
        refine best_lg s tg a ha d (k + 1) _ _ _ _ (by omega) hr (fun j hj2 => ?_)
        by_cases e : j = k
        · subst e; omega
        · exact hj j (by omega)
theorem bestAt_lg (s tg : ByteArray) (a : Nat) (ha : a + 4 ≤ tg.size) : Rel4 (bestAt s tg a) (lgAt s tg a) := by
  unfold bestAt lgAt
  rw [occ_eq]
  by_cases h3 : 3 ≤ s.size
  · have h := best_lg s tg a ha (s.size - 3) 0 0 0 0 0 (by omega) (.inr ⟨rfl, by decide⟩) (fun j hj => by omega)
    have hlow : ∀ j : Nat, s.size - 3 ≤ j → j < s.size - 3 + 3 → like s tg j a < 4 := fun j h1 h2 => by have := (like_spec s tg j a (by omega) (by omega)).1; omega
    rw [show lg s tg a s.size 0 0 0 = lg s tg a ((s.size - 3) + 3) 0 0 0 by rw [Nat.sub_add_cancel h3], lg_add]
    rw [Nat.zero_add]
    rcases h with ⟨hm, hr⟩ | ⟨hr, hm⟩
    · refine .inl ⟨hm, ?_⟩
      rw [lg_hi s tg a 3 _ _ _ hlow (by rw [hr]; exact hm), hr]
    · exact .inr ⟨hr, lg_low s tg a 3 _ _ _ hlow hm⟩
  · rw [show s.size - 3 = 0 by omega]
    refine .inr ⟨rfl, lg_low s tg a _ _ _ _ (fun j _ h2 => ?_) (by decide)⟩
    have := (like_spec s tg j a (by omega) (by omega)).1
    omega
theorem lgAt_short (s tg : ByteArray) (a : Nat) (h : a ≤ tg.size) (ha : ¬ a + 4 ≤ tg.size) : (lgAt s tg a).2 < 4 :=
  lg_low s tg a _ _ _ _ (fun j _ h2 => by have := (like_spec s tg j a (by omega) h).2.1; omega) (by decide)
theorem wadd (k n : Nat) (h : k + n < 4611686018427387904) : wrap64 ((k : Int) + (n : Int)) = ((k + n : Nat) : Int) := by rw [w64 (by omega) (by omega)]; omega
theorem wadd1 (n : Nat) (h : n < 4611686018427387904) : wrap64 ((n : Int) + 1) = ((n + 1 : Nat) : Int) := w64 (by omega) (by omega)
theorem longest_l1 (s tg : ByteArray) (a k : Nat) (hs : s.size ≤ 1000000) (ht : tg.size ≤ 1000000) (hk : k < s.size) (ha : a ≤ tg.size) (f m : Int) (r : Int × Int)
    (h : Ev (fun n => if m < (like s tg k a : Int) then abugidaref24_longest.l0 n s tg a k (like s tg k a : Int) ((k + 1 : Nat) : Int) else abugidaref24_longest.l0 n s tg a f m ((k + 1 : Nat) : Int)) r) (d : Nat) :
    ∀ n : Nat, like s tg k a - n = d → n ≤ like s tg k a → Ev (fun q => abugidaref24_longest.l1 q s tg a f m k n) r := by
  obtain ⟨h1, h2, h3, h4⟩ := like_spec s tg k a (by omega) ha
  have endL : Ev (fun q => if (like s tg k a : Int) > m then abugidaref24_longest.l0 q s tg a k (like s tg k a : Int) (wrap64 ((k : Int) + 1)) else abugidaref24_longest.l0 q s tg a f m (wrap64 ((k : Int) + 1))) r := by
    rw [wadd1 k (by omega)]; exact h
  induction d with
  | zero =>
    intro n hd hn
    obtain rfl : n = like s tg k a := by omega
    refine Ev.step (fun k => abugidaref24_longest.l1.eq_2 ..) ?_
    rw [wadd k _ (by omega), wadd a _ (by omega)]
    by_cases c1 : k + like s tg k a < s.size
    · refine evI (by omega) ?_
      by_cases c2 : a + like s tg k a < tg.size
      · refine evI (by omega) ?_
        refine evI (by omega) ?_
        refine evI (by omega) ?_
        refine evN (h4 c1 c2) ?_
        exact endL
      · refine evN (by omega) ?_
        exact endL
    · refine evN (by omega) ?_
      exact endL
  | succ d ih =>
    intro n hd hn
    refine Ev.step (fun k => abugidaref24_longest.l1.eq_2 ..) ?_
    rw [wadd k n (by omega), wadd a n (by omega), wadd1 n (by omega)]
    refine evI (by omega) ?_
    refine evI (by omega) ?_
    refine evI (by omega) ?_
    refine evI (by omega) ?_
    refine evI (h3 n (by omega)) ?_
    exact ih (n + 1) (by omega) (by omega)
theorem longest_l0 (s tg : ByteArray) (a : Nat) (hs : s.size ≤ 1000000) (ht : tg.size ≤ 1000000) (ha : a ≤ tg.size) (d : Nat) : ∀ (k : Nat) (f m : Int), s.size - k = d → k ≤ s.size →
    Ev (fun q => abugidaref24_longest.l0 q s tg a f m k) (lg s tg a d k f m) := by
  induction d with
  | zero =>
    intro k f m hd hk
    refine Ev.step (fun k => abugidaref24_longest.l0.eq_2 ..) ?_
    refine evN (by omega) ?_
    exact Ev.now _
  | succ d ih =>
    intro k f m hd hk
    refine Ev.step (fun k => abugidaref24_longest.l0.eq_2 ..) ?_
    refine evI (by omega) ?_
    refine longest_l1 s tg a k hs ht (by omega) ha f m _ ?_ _ 0 rfl (Nat.zero_le _)
    unfold lg
    by_cases hlt : m < (like s tg k a : Int)
    · refine evI hlt ?_
      rw [if_pos hlt]
      exact ih (k + 1) _ _ (by omega) (by omega)
    · refine evN hlt ?_
      rw [if_neg hlt]
      exact ih (k + 1) _ _ (by omega) (by omega)
theorem longest_ev (s tg : ByteArray) (a : Nat) (hs : s.size ≤ 1000000) (ht : tg.size ≤ 1000000) (ha : a ≤ tg.size) : Ev (fun q => abugidaref24_longest.f q s tg a) (lgAt s tg a) :=
  longest_l0 s tg a hs ht ha _ 0 0 0 (by omega) (Nat.zero_le _)
end Go.Proofs.Ytjjpiedcdcdejaa.Pure

/- What Make and the reference's Make are: one difference; and what its pieces are like. -/
set_option linter.unusedVariables false
set_option linter.unusedSimpArgs false
namespace Go.Proofs.Ytjjpiedcdcdejaa.Pure
open Go.RowKit Go.Proofs.Ytjjpiedcdcdejaa.Pb Go.Proofs.YtjjpiedcdcdejaaW.PrintWords Go.Proofs.YtjjpiedcdcdejaaW.PrintLast Go.Proofs.YtjjpiedcdcdejaaW.PrintMore Go.Proofs.Ytjjpiedcdcdejaa.Gw Go.Proofs.Ytjjpiedcdcdejaa.Df
theorem ext_one (t : ByteArray) (fr a : Nat) (h : fr ≤ a) (ha : a < t.size) : t.extract fr a ++ t.extract a (a + 1) = t.extract fr (a + 1) := by
  apply ByteArray.ext
  simp only [ByteArray.data_append, ByteArray.data_extract]
  rw [Array.extract_append_extract]
  congr 1 <;> omega
theorem pcs_none {s tg : ByteArray} {a fr : Nat} {cs : List Int} {ts : List ByteArray} (h : ¬ a + 4 ≤ tg.size) : ∀ k, pcs s tg k a fr cs ts = (cs, ts ++ [tg.extract fr tg.size])
  | 0 => rfl
  | k + 1 => pcs_end h
theorem Pieces_loop (s tg : ByteArray) (hs : s.size ≤ 1000000) (ht : tg.size ≤ 1000000) (d : Nat) : ∀ (k a fr : Nat) (cs : List Int) (ts : List ByteArray), tg.size - a ≤ d → a ≤ tg.size → fr ≤ a → tg.size + 1 ≤ a + k → cs.length ≤ 2 * a → ts.length ≤ a →
    Ev (fun q => abugidaref24_Pieces.l0 q s tg cs (ts ++ [tg.extract fr a]) a) (pcs s tg k a fr cs ts) := by
  induction d with
  | zero =>
    intro k a fr cs ts hd ha hf hk hc hl
    obtain rfl : a = tg.size := by omega
    rw [pcs_none (by omega)]
    refine Ev.step (fun k => abugidaref24_Pieces.l0.eq_2 ..) ?_
    refine evN (by omega) ?_
    exact Ev.now _
  | succ d ih =>
    intro k a fr cs ts hd ha hf hk hc hl
    by_cases hlt : a < tg.size
    · have hR : ∀ (c : a + 4 ≤ tg.size), Rel4 (bestAt s tg a) (lgAt s tg a) := fun c => bestAt_lg s tg a c
      refine Ev.step (fun k => abugidaref24_Pieces.l0.eq_2 ..) ?_
      refine evI (by omega) ?_
      refine Ev.bind (longest_ev s tg a hs ht ha) ?_
      by_cases h4 : 4 ≤ (lgAt s tg a).2
      · have c : a + 4 ≤ tg.size := by
          by_cases c : a + 4 ≤ tg.size
          · exact c
          · have := lgAt_short s tg a ha c; omega
        have hb : bestAt s tg a = lgAt s tg a := by
          rcases hR c with ⟨_, h⟩ | ⟨_, h⟩
          · exact h.symm
          · omega
        have hbd := bestAt_bound s tg a ha
        rw [hb] at hbd
        obtain ⟨k1, rfl⟩ : ∃ k1, k = k1 + 1 := ⟨k - 1, by omega⟩
        rw [pcs_take c (by rw [hb]; omega), hb]
        generalize lgAt s tg a = p at h4 hbd ⊢
        obtain ⟨f, m⟩ := p
        obtain ⟨n, rfl⟩ : ∃ n : Nat, m = n := ⟨m.toNat, by have := hbd.1; dsimp only at this; omega⟩
        have hbd2 : (n : Int) ≤ (tg.size : Int) - a := hbd.2
        refine evI h4 ?_
        refine Ev.bind (Ev.now _) ?_
        refine evI (by show cs.length + 2 < 17592186044416; omega) ?_
        refine evI (by rw [List.length_append]; show ts.length + 1 < 8796093022208; omega) ?_
        rw [wadd a n (by omega)]
        have e0 : (⟨#[]⟩ : ByteArray) = tg.extract (a + n) (a + n) := by
          apply ByteArray.ext
          simp
        rw [e0]
        have h4' : (4 : Int) ≤ (n : Int) := h4
        have := ih k1 (a + n) (a + n) (cs ++ [f, (n : Int)]) (ts ++ [tg.extract fr a]) (by omega) (by omega) (Nat.le_refl _) (by omega) (by rw [List.length_append]; show cs.length + 2 ≤ _; omega) (by rw [List.length_append]; show ts.length + 1 ≤ _; omega)
        exact this
      · refine evN (by show ¬ (lgAt s tg a).2 ≥ 4; omega) ?_
        have hn : (ts ++ [tg.extract fr a]).length = ts.length + 1 := by rw [List.length_append]; rfl
        have hwn : wrap64 (((ts ++ [tg.extract fr a]).length : Int) - 1) = (ts.length : Int) := by rw [hn, w64 (by omega) (by omega)]; omega
        rw [hwn]
        rw [hn, wadd1 a (by omega)]
        refine evI (by omega) ?_
        refine evI (by omega) ?_
        refine evI (by omega) ?_
        refine evI (by omega) ?_
        refine evI (by omega) ?_
        have hg : rdOf ByteArray.empty (ts ++ [tg.extract fr a]) (ts.length : Int) = tg.extract fr a := rd_some' (by simp)
        have hz1 : (tg.extract fr a).size ≤ 1000000 := by rw [ByteArray.size_extract]; omega
        have hz2 : (tg.extract (a : Int).toNat ((a + 1 : Nat) : Int).toNat).size ≤ 1000000 := by rw [ByteArray.size_extract]; omega
        rw [hg]
        refine evI (by omega) ?_
        have hset : (ts ++ [tg.extract fr a]).set ((ts.length : Int)).toNat (tg.extract fr a ++ tg.extract (a : Int).toNat ((a + 1 : Nat) : Int).toNat) = ts ++ [tg.extract fr (a + 1)] := by
          rw [show ((ts.length : Int)).toNat = ts.length by omega, show ((a : Int)).toNat = a by omega, show (((a + 1 : Nat) : Int)).toNat = a + 1 by omega, ext_one tg fr a hf hlt]
          simp
        rw [hset]
        have hp : pcs s tg k a fr cs ts = pcs s tg (k - 1) (a + 1) fr cs ts := by
          obtain ⟨k1, rfl⟩ : ∃ k1, k = k1 + 1 := ⟨k - 1, by omega⟩
          by_cases c : a + 4 ≤ tg.size
          · rw [pcs_skip c]
            · rfl
            · rcases hR c with ⟨h, e⟩ | ⟨h, _⟩
              · rw [e] at h4; exact absurd h h4
              · rw [h]
          · rw [pcs_end c]
            exact (pcs_none (by omega) _).symm
        rw [hp]
        exact ih (k - 1) (a + 1) fr cs ts (by omega) (by omega) (by omega) (by omega) (by omega) (by omega)
    · obtain rfl : a = tg.size := by omega
      rw [pcs_none (by omega)]
      refine Ev.step (fun k => abugidaref24_Pieces.l0.eq_2 ..) ?_
      refine evN (by omega) ?_
      exact Ev.now _
theorem Pieces_ev (s tg : ByteArray) (hs : s.size ≤ 1000000) (ht : tg.size ≤ 1000000) : Ev (fun q => abugidaref24_Pieces.f q s tg) (Pcs s tg) := by
  have e0 : ([(⟨#[]⟩ : ByteArray)] : List ByteArray) = [] ++ [tg.extract 0 0] := by
    rw [List.nil_append]
    congr 1
    apply ByteArray.ext
    simp
  unfold abugidaref24_Pieces.f Pcs
  rw [e0]
  exact Pieces_loop s tg hs ht tg.size (tg.size + 1) 0 0 [] [] (by omega) (by omega) (by omega) (by omega) (by simp) (by simp)
/-- No piece of four bytes begins here. -/
def NoL (s tg : ByteArray) (i : Nat) : Prop := ∀ j, j < s.size → like s tg j i < 4
/-- The pieces of a target from a place on. -/
inductive Seg (s tg : ByteArray) : Nat → List Int → List ByteArray → Prop
  | last (fr : Nat) : fr ≤ tg.size → (∀ i, fr ≤ i → i < tg.size → NoL s tg i) → Seg s tg fr [] [tg.extract fr tg.size]
  | copy (fr p f n : Nat) (cs : List Int) (ts : List ByteArray) : fr ≤ p → (∀ i, fr ≤ i → i < p → NoL s tg i) → 4 ≤ n → f < s.size → like s tg f p = n → (∀ j, j < s.size → like s tg j p ≤ n) → (∀ j, j < f → like s tg j p < n) → p + n ≤ tg.size → Seg s tg (p + n) cs ts →
    Seg s tg fr ((f : Int) :: (n : Int) :: cs) (tg.extract fr p :: ts)
theorem noL_of_rel {s tg : ByteArray} {a : Nat} (h : (lgAt s tg a).2 < 4) : NoL s tg a := by
  intro j hj
  rcases lgAt_isB s tg a with ⟨h1, h2, h3⟩ | ⟨p, n, h1, h2, h3, h4, h5, h6, h7⟩
  · have := h3 j hj; omega
  · have := h6 j hj; omega
theorem noL_short {s tg : ByteArray} {a : Nat} (h : ¬ a + 4 ≤ tg.size) (ha : a ≤ tg.size) : NoL s tg a := noL_of_rel (lgAt_short s tg a ha h)
theorem pcs_seg (s tg : ByteArray) (d : Nat) : ∀ (k a fr : Nat) (cs : List Int) (ts : List ByteArray), tg.size - a ≤ d → a ≤ tg.size → fr ≤ a → tg.size + 1 ≤ a + k → (∀ i, fr ≤ i → i < a → NoL s tg i) →
    ∃ cs' ts', pcs s tg k a fr cs ts = (cs ++ cs', ts ++ ts') ∧ Seg s tg fr cs' ts' := by
  induction d with
  | zero =>
    intro k a fr cs ts hd ha hf hk hN
    obtain rfl : a = tg.size := by omega
    exact ⟨[], _, by rw [pcs_none (by omega), List.append_nil], Seg.last fr hf hN⟩
  | succ d ih =>
    intro k a fr cs ts hd ha hf hk hN
    by_cases c : a + 4 ≤ tg.size
    · obtain ⟨k1, rfl⟩ : ∃ k1, k = k1 + 1 := ⟨k - 1, by omega⟩
      rcases bestAt_lg s tg a c with ⟨h4, he⟩ | ⟨h0, h4⟩
      · have hB := lgAt_isB s tg a
        have hbd := bestAt_bound s tg a ha
        rw [he] at hB
        rw [pcs_take c (by omega)]
        generalize bestAt s tg a = p at h4 hB hbd ⊢
        obtain ⟨f, m⟩ := p
        have h4 : 4 ≤ m := h4
        rcases hB with ⟨h1, _⟩ | ⟨p, n, h1, h2, h3, h5, h6, h7, h8⟩
        · have h1 : m = 0 := h1
          omega
        · have h1 : f = (p : Int) := h1
          have h2 : m = (n : Int) := h2
          subst h1 h2
          have hbd2 : (n : Int) ≤ (tg.size : Int) - a := hbd.2
          obtain ⟨cs', ts', e, hS⟩ := ih k1 (a + n) (a + n) (cs ++ [(p : Int), (n : Int)]) (ts ++ [tg.extract fr a]) (by omega) (by omega) (Nat.le_refl _) (by omega) (fun i h1 h2 => by omega)
          refine ⟨(p : Int) :: (n : Int) :: cs', tg.extract fr a :: ts', ?_, Seg.copy fr a p n cs' ts' hf hN (by omega) h5 h6 h7 h8 (by omega) hS⟩
          refine Eq.trans e ?_
          rw [List.append_assoc, List.append_assoc]
          rfl
      · rw [pcs_skip c (by rw [h0])]
        refine ih k1 (a + 1) fr cs ts (by omega) (by omega) (by omega) (by omega) (fun i h1 h2 => ?_)
        by_cases e : i = a
        · subst e; exact noL_of_rel h4
        · exact hN i h1 (by omega)
    · refine ⟨[], _, by rw [pcs_none c, List.append_nil], Seg.last fr (by omega) (fun i h1 h2 => ?_)⟩
      by_cases e : i < a
      · exact hN i h1 e
      · exact noL_short (by omega) (by omega)
theorem Pcs_seg (s tg : ByteArray) : Seg s tg 0 (Pcs s tg).1 (Pcs s tg).2 := by
  obtain ⟨cs, ts, e, h⟩ := pcs_seg s tg tg.size (tg.size + 1) 0 0 [] [] (by omega) (by omega) (by omega) (by omega) (fun i _ h => by omega)
  rw [List.nil_append, List.nil_append] at e
  unfold Pcs
  rw [e]
  exact h
theorem Seg.lens {s tg : ByteArray} {fr : Nat} {cs : List Int} {ts : List ByteArray} (h : Seg s tg fr cs ts) : 2 * ts.length = cs.length + 2 ∧ 2 * cs.length ≤ tg.size - fr := by
  induction h with
  | last fr h hN => exact ⟨rfl, Nat.zero_le _⟩
  | copy fr p f n cs ts hf hN h4 hfs hl hm hm2 hp hS ih =>
    simp only [List.length_cons]
    omega
theorem Seg.bounds {s tg : ByteArray} {fr : Nat} {cs : List Int} {ts : List ByteArray} (h : Seg s tg fr cs ts) : (∀ x ∈ cs, 0 ≤ x ∧ x ≤ s.size) ∧ ∀ t ∈ ts, t.size ≤ tg.size := by
  induction h with
  | last fr h hN =>
    refine ⟨fun x hx => (List.not_mem_nil hx).elim, fun t ht => ?_⟩
    rw [List.mem_singleton.1 ht, ByteArray.size_extract]
    omega
  | copy fr p f n cs ts hf hN h4 hfs hl hm hm2 hp hS ih =>
    have := (like_spec s tg f p (by omega) (by omega)).1
    refine ⟨fun x hx => ?_, fun t ht => ?_⟩
    · rcases List.mem_cons.1 hx with rfl | hx
      · omega
      · rcases List.mem_cons.1 hx with rfl | hx
        · omega
        · exact ih.1 x hx
    · rcases List.mem_cons.1 ht with rfl | ht
      · rw [ByteArray.size_extract]; omega
      · exact ih.2 t ht
/-- A difference. -/
def codeB (cs : List Int) (ts : List ByteArray) : ByteArray := IntsB cs ++ TextsB ts
def MakeB (s tg : ByteArray) : ByteArray := codeB (Pcs s tg).1 (Pcs s tg).2
theorem ok64_of {cs : List Int} {N : Nat} (h : ∀ x ∈ cs, 0 ≤ x ∧ x ≤ (N : Int)) (hN : N ≤ 1000000) : Ok64 cs := fun x hx => by have := h x hx; omega
theorem codeB_size (cs : List Int) (ts : List ByteArray) (hc : cs.length ≤ 1000) (ht : ts.length ≤ 1000) (h : Ok64 cs) (h2 : ∀ t ∈ ts, t.size ≤ 70000) : (codeB cs ts).size ≤ 100000000 := by
  have h1 := IntsB_size cs hc h
  have h2 := TextsB_size ts ht h2
  rw [codeB, ByteArray.size_append]
  omega
/-- The lists of a difference are small enough. -/
structure Small (cs : List Int) (ts : List ByteArray) : Prop where
  c : cs.length ≤ 1000
  t : ts.length ≤ 1000
  o : Ok64 cs
  z : ∀ t ∈ ts, t.size ≤ 70000
theorem Pcs_small (s tg : ByteArray) (hs : s.size ≤ 1000000) (ht : tg.size ≤ 70000) (hc : (Pcs s tg).1.length ≤ 1000) : Small (Pcs s tg).1 (Pcs s tg).2 := by
  have h := Pcs_seg s tg
  have h1 := h.lens
  have h2 := h.bounds
  exact ⟨hc, by omega, ok64_of h2.1 hs, fun t h => Nat.le_trans (h2.2 t h) ht⟩
theorem Pcs_small' (s tg : ByteArray) (hs : s.size ≤ 1000000) (ht : tg.size ≤ 2000) : Small (Pcs s tg).1 (Pcs s tg).2 :=
  Pcs_small s tg hs (by omega) (by have := (Pcs_seg s tg).lens; omega)
theorem Make_ev (s tg : ByteArray) (hs : s.size ≤ 65536) (ht : tg.size ≤ 65536) (h : Small (Pcs s tg).1 (Pcs s tg).2) : Ev (fun k => diff_Make.f k s tg) (MakeB s tg) := by
  unfold diff_Make.f
  refine evI ht ?_
  have hb : base6 s = s := if_pos hs
  rw [hb]
  refine Ev.bind (wire_Ints_ev _ h.c h.o) ?_
  refine Ev.bind (wire_Texts_ev _ h.t h.z) ?_
  have := codeB_size _ _ h.c h.t h.o h.z
  rw [codeB, ByteArray.size_append] at this
  refine evI (by omega) ?_
  exact Ev.now _
theorem refMake_ev (s tg : ByteArray) (hs : s.size ≤ 65536) (ht : tg.size ≤ 65536) (h : Small (Pcs s tg).1 (Pcs s tg).2) : Ev (fun k => abugidaref24_Make.f k s tg) (MakeB s tg) := by
  unfold abugidaref24_Make.f
  refine evN (by omega) ?_
  refine evN (by omega) ?_
  refine Ev.bind (Pieces_ev s tg (by omega) (by omega)) ?_
  refine Ev.bind (ref_Ints_ev _ h.c h.o) ?_
  refine Ev.bind (ref_Texts_ev _ h.t h.z) ?_
  have := codeB_size _ _ h.c h.t h.o h.z
  rw [codeB, ByteArray.size_append] at this
  refine evI (by omega) ?_
  exact Ev.now _
theorem code_ev (cs : List Int) (ts : List ByteArray) (h : Small cs ts) : Ev (fun k => abugidalaw24_code.f k cs ts) (codeB cs ts) := by
  unfold abugidalaw24_code.f
  refine Ev.bind (ref_Ints_ev _ h.c h.o) ?_
  refine Ev.bind (ref_Texts_ev _ h.t h.z) ?_
  have := codeB_size _ _ h.c h.t h.o h.z
  rw [codeB, ByteArray.size_append] at this
  refine evI (by omega) ?_
  exact Ev.now _
end Go.Proofs.Ytjjpiedcdcdejaa.Pure

/- Apply: the code's and the reference's are one; what Apply makes of a difference. -/
set_option linter.unusedVariables false
set_option linter.unusedSimpArgs false
namespace Go.Proofs.Ytjjpiedcdcdejaa.Pure
open Go.RowKit Go.Proofs.Ytjjpiedcdcdejaa.Pb Go.Proofs.YtjjpiedcdcdejaaW.PrintWords Go.Proofs.YtjjpiedcdcdejaaW.PrintLast Go.Proofs.YtjjpiedcdcdejaaW.PrintMore Go.Proofs.Ytjjpiedcdcdejaa.Gw Go.Proofs.Ytjjpiedcdcdejaa.Df
theorem not_out {s : ByteArray} {f n : Int} (h : ¬ outOf s f n) : 0 ≤ f ∧ 1 ≤ n ∧ f ≤ s.size ∧ n ≤ (s.size : Int) - f := by
  unfold outOf at h
  omega
theorem two_k (k : Nat) (h : k ≤ 1000000) : wrap64 (2 * (k : Int) + 1) = 2 * (k : Int) + 1 := w64 (by omega) (by omega)
theorem two_k2 (k : Nat) (h : k ≤ 1000000) : wrap64 (2 * (k : Int) + 2) = 2 * ((k + 1 : Nat) : Int) := by rw [w64 (by omega) (by omega)]; omega
theorem half_k (k : Nat) (h : k ≤ 1000000) : wrap64 (wrap64 (Int.tdiv (2 * (k : Int)) 2) + 1) = ((k : Int) + 1) := by
  rw [show Int.tdiv (2 * (k : Int)) 2 = k by rw [Int.tdiv_eq_ediv_of_nonneg (by omega)]; omega, w64 (x := (k : Int)) (by omega) (by omega), w64 (by omega) (by omega)]
theorem rdOf_rd (cs : List Int) (i : Int) : rdOf 0 cs i = rd cs i := rfl
theorem apply_l1 (s : ByteArray) (cs : List Int) (ts : List ByteArray) (many : Int) (hm : many ≤ 65536) (hL : 2 * ts.length = cs.length + 2) (hb : ts.length ≤ 9000) (hs : s.size ≤ 1000000) (d : Nat) :
    ∀ (k : Nat) (m : Int) (out : ByteArray), ts.length - 1 - k = d → k ≤ ts.length - 1 → chkI s cs ts d k m = some many → (out.size : Int) = m → Ev (fun q => abugidaref24_Apply.l1 q s cs ts out (2 * (k : Int))) (glueI s cs ts d k out, 0) := by
  induction d with
  | zero =>
    intro k m out hd hk hc ho
    refine Ev.step (fun k => abugidaref24_Apply.l1.eq_2 ..) ?_
    rw [two_k k (by omega)]
    refine evN (by omega) ?_
    exact Ev.now _
  | succ d ih =>
    intro k m out hd hk hc ho
    obtain ⟨h1, h2, h3⟩ := chk_next (r := d + 1) (by omega) rfl rfl rfl hc hm
    obtain ⟨g1, g2, g3, g4⟩ := not_out h1
    rw [Nat.add_sub_cancel] at h3
    rw [glueI_next (r := d + 1) (by omega) rfl rfl rfl, Nat.add_sub_cancel]
    refine Ev.step (fun k => abugidaref24_Apply.l1.eq_2 ..) ?_
    rw [two_k k (by omega), two_k2 k (by omega), half_k k (by omega), ← rdOf_rd, ← rdOf_rd]
    generalize rdOf 0 cs (2 * (k : Int)) = f at *
    generalize rdOf 0 cs (2 * (k : Int) + 1) = n at *
    generalize rdOf ByteArray.empty ts ((k : Int) + 1) = t at *
    have hfn : wrap64 (f + n) = f + n := w64 (by omega) (by omega)
    rw [hfn]
    clear hfn
    have he : s.extract f.toNat (f + n).toNat = (s.extract f.toNat s.size).extract 0 n.toNat := by
      rw [show (f + n).toNat = f.toNat + n.toNat by omega]
      exact ext_ext s f.toNat n.toNat (by omega)
    have hz : ((s.extract f.toNat s.size).extract 0 n.toNat).size = n.toNat := by rw [← he, ByteArray.size_extract]; omega
    rw [he]
    refine evI (by omega) ?_
    refine evI (by omega) ?_
    refine evI (by omega) ?_
    refine evI (by omega) ?_
    refine evI (by omega) ?_
    refine evI (by omega) ?_
    refine evI (by omega) ?_
    refine evI (by omega) ?_
    refine evI (by omega) ?_
    refine evI (by omega) ?_
    refine evI (by rw [ByteArray.size_append]; omega) ?_
    exact ih (k + 1) _ _ (by omega) (by omega) h3 (by rw [ByteArray.size_append, ByteArray.size_append]; omega)
theorem apply_l0 (s : ByteArray) (cs : List Int) (ts : List ByteArray) (hL : 2 * ts.length = cs.length + 2) (hb : ts.length ≤ 9000) (hs : s.size ≤ 1000000) (hz : ∀ t ∈ ts, t.size ≤ 1000000) (r : ByteArray × Int) (d : Nat) :
    ∀ (k : Nat) (m : Int), ts.length - 1 - k = d → k ≤ ts.length - 1 → 0 ≤ m → m ≤ 1000000 →
    (chkI s cs ts (ts.length - 1) 0 ((rdOf ByteArray.empty ts 0).size : Int) = chkI s cs ts d k m) →
    Ev (fun q => abugidaref24_Apply.l0 q s cs ts m (2 * (k : Int))) (applyF s cs ts ⟨#[]⟩ false) := by
  have hq : ¬ 0 < (⟨#[]⟩ : ByteArray).size := by decide
  induction d with
  | zero =>
    intro k m hd hk h0 h1 hc
    refine Ev.step (fun k => abugidaref24_Apply.l0.eq_2 ..) ?_
    rw [two_k k (by omega)]
    refine evN (by omega) ?_
    by_cases hm : 65536 < m
    · refine evI hm ?_
      rw [applyF_many hL hq hc hm]
      exact Ev.now _
    · refine evN hm ?_
      refine evI (by omega) ?_
      rw [applyF_ok hL hq hc hm]
      exact apply_l1 s cs ts m (by omega) hL hb hs (ts.length - 1) 0 _ _ (by omega) (by omega) hc rfl
  | succ d ih =>
    intro k m hd hk h0 h1 hc
    refine Ev.step (fun k => abugidaref24_Apply.l0.eq_2 ..) ?_
    rw [two_k k (by omega), two_k2 k (by omega), half_k k (by omega), ← rdOf_rd, ← rdOf_rd]
    obtain ⟨f, hf⟩ : ∃ f, f = rdOf 0 cs (2 * (k : Int)) := ⟨_, rfl⟩
    obtain ⟨n, hn⟩ : ∃ n, n = rdOf 0 cs (2 * (k : Int) + 1) := ⟨_, rfl⟩
    obtain ⟨t, ht⟩ : ∃ t, t = rdOf ByteArray.empty ts ((k : Int) + 1) := ⟨_, rfl⟩
    rw [← hf, ← hn, ← ht]
    refine evI (by omega) ?_
    refine evI (by omega) ?_
    refine evI (by omega) ?_
    refine evI (by omega) ?_
    have bad : outOf s f n → applyF s cs ts ⟨#[]⟩ false = (⟨#[]⟩, 3) := fun ho => by
      rw [chkI_out (r := d + 1) (by omega) hf hn ho] at hc
      exact applyF_rng hL hq hc
    by_cases c1 : f < 0
    · refine evI c1 ?_
      rw [bad (Or.inl c1)]
      exact Ev.now _
    refine evN c1 ?_
    by_cases c2 : n < 1
    · refine evI c2 ?_
      rw [bad (Or.inr (Or.inl c2))]
      exact Ev.now _
    refine evN c2 ?_
    by_cases c3 : (s.size : Int) < f
    · refine evI c3 ?_
      rw [bad (Or.inr (Or.inr (Or.inl c3)))]
      exact Ev.now _
    refine evN c3 ?_
    have hw : wrap64 ((s.size : Int) - f) = (s.size : Int) - f := w64 (by omega) (by omega)
    rw [hw]
    clear hw
    by_cases c4 : (s.size : Int) - f < n
    · refine evI c4 ?_
      rw [bad (Or.inr (Or.inr (Or.inr c4)))]
      exact Ev.now _
    refine evN c4 ?_
    have hno : ¬ outOf s f n := by rintro (h | h | h | h); exact c1 h; exact c2 h; exact c3 h; exact c4 h
    rw [chkI_in (r := d + 1) (by omega) hf hn ht hno, Nat.add_sub_cancel] at hc
    have htz : t.size ≤ 1000000 := by
      rw [ht]
      unfold rdOf
      rw [List.getD_eq_getElem?_getD]
      cases e : ts[((k : Int) + 1).toNat]? with
      | none => exact Nat.zero_le _
      | some x => exact hz x (List.mem_of_getElem? e)
    refine evI (by omega) ?_
    refine evI (by omega) ?_
    rw [show wrap64 (wrap64 (m + n) + (t.size : Int)) = m + n + (t.size : Int) by rw [w64 (x := m + n) (by omega) (by omega), w64 (by omega) (by omega)]]
    exact ih (k + 1) _ (by omega) (by omega) (by unfold mn; split <;> omega) (by unfold mn; split <;> omega) hc
theorem applyF_bad {s q : ByteArray} {cs : List Int} {ts : List ByteArray} {b : Bool} (h : b = true ∨ 0 < q.size ∨ ¬ 2 * ts.length = cs.length + 2) : applyF s cs ts q b = (⟨#[]⟩, 4) := if_pos h
/-- Apply and the reference's Apply return the same, whatever the difference. -/
theorem Apply_same (s d : ByteArray) (hs : s.size ≤ 1000000) (hd : d.size ≤ 9000) : ∃ r, Ev (fun k => diff_Apply.f k s d) r ∧ Ev (fun k => abugidaref24_Apply.f k s d) r := by
  have h0 : Sim d false d 0 false := ⟨rfl, fun _ => ⟨0, rfl, Nat.zero_le _, by apply ByteArray.ext; simp⟩⟩
  obtain ⟨cs, q1, i1, b1, p1, r1, s1, l1⟩ := Ints_same d hd d false 0 h0
  obtain ⟨ts, q2, i2, b2, p2, r2, s2, l2, z2⟩ := Texts_same2 d hd q1 b1 i1 s1
  refine ⟨applyF s cs ts q2 b2, ?_, ?_⟩
  · unfold diff_Apply.f
    refine Ev.bind p1 ?_
    refine Ev.bind p2 ?_
    refine evI ⟨by omega, by show cs.length ≤ _; omega, by show ts.length ≤ _; omega, fun x hx => by have := z2 x hx; omega⟩ ?_
    exact Ev.now _
  · unfold abugidaref24_Apply.f
    refine Ev.bind (Ev.now (d, 0, false)) ?_
    refine Ev.bind r1 ?_
    refine Ev.bind r2 ?_
    refine Ev.bind (a := (b2, d, i2, b2)) (Ev.now _) ?_
    have j0 : ∀ (e : applyF s cs ts q2 b2 = (⟨#[]⟩, 4)), Ev (fun k => abugidaref24_Apply.j0 k s cs ts true) (applyF s cs ts q2 b2) := fun e => by
      rw [e]
      refine Ev.step (fun k => abugidaref24_Apply.j0.eq_2 ..) ?_
      exact evI rfl (Ev.now _)
    cases b2 with
    | true =>
      refine Ev.bind (a := (0, d, i2, true)) (Ev.now _) ?_
      refine evI rfl ?_
      exact j0 (applyF_bad (.inl rfl))
    | false =>
      obtain ⟨n, rfl, hn, hq⟩ := s2.2 rfl
      have hz : q2.size = d.size - n := by rw [hq]; exact size_ext d n hn
      have hw : wrap64 ((d.size : Int) - (n : Int)) = (d.size : Int) - n := w64 (by omega) (by omega)
      refine Ev.bind (a := ((d.size : Int) - n, d, (n : Int), false)) ?_ ?_
      · rw [← hw]
        exact Ev.now _
      · clear hw
        refine evN Bool.false_ne_true ?_
        by_cases hq0 : 0 < q2.size
        · refine evI (by show (d.size : Int) - n > 0; omega) ?_
          exact j0 (applyF_bad (.inr (.inl hq0)))
        · refine evN (by show ¬ (d.size : Int) - n > 0; omega) ?_
          by_cases ho : ((cs.length : Int) % 2) = 1
          · refine evI ho ?_
            exact j0 (applyF_bad (.inr (.inr (by omega))))
          · refine evN ho ?_
            have hw : wrap64 (wrap64 ((cs.length : Int) / 2) + 1) = (cs.length : Int) / 2 + 1 := by rw [w64 (x := (cs.length : Int) / 2) (by omega) (by omega), w64 (by omega) (by omega)]
            show Ev (fun k => abugidaref24_Apply.j0 k s cs ts ((ts.length : Int) != wrap64 (wrap64 ((cs.length : Int) / 2) + 1))) _
            rw [hw]
            clear hw
            by_cases hl : 2 * ts.length = cs.length + 2
            · rw [show ((ts.length : Int) != (cs.length : Int) / 2 + 1) = false from bne_eq_false_iff_eq.2 (by omega)]
              refine Ev.step (fun k => abugidaref24_Apply.j0.eq_2 ..) ?_
              refine evN Bool.false_ne_true ?_
              refine evI (by omega) ?_
              have hqe : q2 = ⟨#[]⟩ := by
                apply ext_bt
                · show q2.size = 0
                  omega
                · intro j hj; omega
              rw [hqe]
              have hz0 : (rdOf ByteArray.empty ts 0).size ≤ 9000 := by
                unfold rdOf
                rw [List.getD_eq_getElem?_getD]
                cases e : ts[(0 : Int).toNat]? with
                | none => exact Nat.zero_le _
                | some x => exact z2 x (List.mem_of_getElem? e)
              exact apply_l0 s cs ts hl l2 hs (fun t ht => by have := z2 t ht; omega) (⟨#[]⟩, 0) (ts.length - 1) 0 _ (by omega) (by omega) (by omega) (by omega) rfl
            · rw [show ((ts.length : Int) != (cs.length : Int) / 2 + 1) = true from bne_iff_ne.2 (by omega)]
              exact j0 (applyF_bad (.inr (.inr hl)))
/-- What Apply makes of a difference, with something behind it. -/
theorem Apply_code (s : ByteArray) (cs : List Int) (ts : List ByteArray) (rest : ByteArray) (h : Small cs ts) (hs : s.size ≤ 1000000) (hr : rest.size ≤ 1000) : Ev (fun k => diff_Apply.f k s (codeB cs ts ++ rest)) (applyF s cs ts rest false) := by
  have hz := TextsB_size ts h.t h.z
  have ht := h.t
  have hc := h.c
  unfold diff_Apply.f codeB
  rw [show IntsB cs ++ TextsB ts ++ rest = IntsB cs ++ (TextsB ts ++ rest) from ByteArray.append_assoc]
  refine Ev.bind (Ints_ev cs (TextsB ts ++ rest) h.c h.o (by rw [ByteArray.size_append]; omega)) ?_
  refine Ev.bind (Texts_ev ts rest h.t h.z (by omega)) ?_
  refine evI ⟨by omega, by show cs.length ≤ _; omega, by show ts.length ≤ _; omega, fun x hx => by have := h.z x hx; omega⟩ ?_
  exact Ev.now _
theorem Apply_code0 (s : ByteArray) (cs : List Int) (ts : List ByteArray) (h : Small cs ts) (hs : s.size ≤ 1000000) : Ev (fun k => diff_Apply.f k s (codeB cs ts)) (applyF s cs ts ⟨#[]⟩ false) := by
  have := Apply_code s cs ts ⟨#[]⟩ h hs (by decide)
  rwa [show codeB cs ts ++ ⟨#[]⟩ = codeB cs ts by apply ByteArray.ext; simp] at this
/-- The same, by the lists. -/
def chkL (s : ByteArray) : List Int → List ByteArray → Int → Option Int
  | f :: n :: cs, t :: ts, m => if outOf s f n then none else chkL s cs ts (mn (m + n + (t.size : Int)) 65537)
  | _, _, m => some m
def glueL (s : ByteArray) : List Int → List ByteArray → ByteArray → ByteArray
  | f :: n :: cs, t :: ts, out => glueL s cs ts (out ++ (s.extract f.toNat s.size).extract 0 n.toNat ++ t)
  | _, _, out => out
theorem drop_c {cs : List Int} {k : Nat} (h : 2 * k + 1 < cs.length) : cs.drop (2 * k) = rdOf 0 cs (2 * (k : Int)) :: rdOf 0 cs (2 * (k : Int) + 1) :: cs.drop (2 * (k + 1)) := by
  rw [List.drop_eq_getElem_cons (by omega), List.drop_eq_getElem_cons (by omega)]
  unfold rdOf
  rw [show (2 * (k : Int)).toNat = 2 * k by omega, show (2 * (k : Int) + 1).toNat = 2 * k + 1 by omega, List.getD_eq_getElem?_getD, List.getD_eq_getElem?_getD, List.getElem?_eq_getElem (by omega), List.getElem?_eq_getElem h]
  rfl
theorem drop_t {ts : List ByteArray} {k : Nat} (h : k + 1 < ts.length) : ts.drop (k + 1) = rdOf ByteArray.empty ts ((k : Int) + 1) :: ts.drop (k + 1 + 1) := by
  rw [List.drop_eq_getElem_cons (by omega)]
  unfold rdOf
  rw [show ((k : Int) + 1).toNat = k + 1 by omega, List.getD_eq_getElem?_getD, List.getElem?_eq_getElem h]
  rfl
theorem chkI_L (s : ByteArray) (cs : List Int) (ts : List ByteArray) (hL : 2 * ts.length = cs.length + 2) : ∀ (r k : Nat) (m : Int), r = ts.length - 1 - k → k ≤ ts.length - 1 → chkI s cs ts r k m = chkL s (cs.drop (2 * k)) (ts.drop (k + 1)) m
  | 0, k, m, hr, hk => by
    rw [List.drop_eq_nil_of_le (show cs.length ≤ 2 * k by omega), List.drop_eq_nil_of_le (show ts.length ≤ k + 1 by omega)]
    rfl
  | r + 1, k, m, hr, hk => by
    rw [drop_c (by omega), drop_t (by omega), chkI, chkL]
    split
    · rfl
    · exact chkI_L s cs ts hL r (k + 1) _ (by omega) (by omega)
theorem glueI_L (s : ByteArray) (cs : List Int) (ts : List ByteArray) (hL : 2 * ts.length = cs.length + 2) : ∀ (r k : Nat) (out : ByteArray), r = ts.length - 1 - k → k ≤ ts.length - 1 → glueI s cs ts r k out = glueL s (cs.drop (2 * k)) (ts.drop (k + 1)) out
  | 0, k, m, hr, hk => by
    rw [List.drop_eq_nil_of_le (show cs.length ≤ 2 * k by omega), List.drop_eq_nil_of_le (show ts.length ≤ k + 1 by omega)]
    rfl
  | r + 1, k, m, hr, hk => by
    rw [drop_c (by omega), drop_t (by omega), glueI, glueL]
    exact glueI_L s cs ts hL r (k + 1) _ (by omega) (by omega)
/-- What Apply answers, by the lists. -/
def applyL (s : ByteArray) (cs : List Int) (t : ByteArray) (ts : List ByteArray) : ByteArray × Int :=
  match chkL s cs ts (t.size : Int) with
  | none => (⟨#[]⟩, 3)
  | some m => if 65536 < m then (⟨#[]⟩, 2) else (glueL s cs ts t, 0)
theorem applyF_L (s : ByteArray) (cs : List Int) (t : ByteArray) (ts : List ByteArray) (hL : 2 * (ts.length + 1) = cs.length + 2) : applyF s cs (t :: ts) ⟨#[]⟩ false = applyL s cs t ts := by
  have h1 := fun m => chkI_L s cs (t :: ts) hL ts.length 0 m (by simp) (by simp)
  have h2 := fun m => glueI_L s cs (t :: ts) hL ts.length 0 m (by simp) (by simp)
  unfold applyF applyL
  rw [if_neg (by rintro (h | h | h); cases h; exact absurd h (by decide); exact h hL)]
  rw [show (t :: ts).length - 1 = ts.length from rfl, show rdOf ByteArray.empty (t :: ts) 0 = t from rfl, h1, h2]
  rfl
theorem ext_cat (t : ByteArray) (a b c : Nat) (h : a ≤ b) (h2 : b ≤ c) (hc : c ≤ t.size) : t.extract a b ++ t.extract b c = t.extract a c := by
  apply ByteArray.ext
  simp only [ByteArray.data_append, ByteArray.data_extract]
  rw [Array.extract_append_extract]
  congr 1 <;> omega
theorem ext_all (t : ByteArray) : t.extract 0 t.size = t := by
  apply ByteArray.ext
  simp
theorem bt_app (s b : ByteArray) (j : Nat) (h : j < s.size) : bt (s ++ b) (j : Int) = bt s (j : Int) := by
  rw [bt_get s j h, bt_get (s ++ b) j (by rw [ByteArray.size_append]; omega), ByteArray.getElem_append_left]
/-- Applied to the base, with more behind it, the pieces make the target. -/
theorem Seg.glue {s tg : ByteArray} (b : ByteArray) {fr : Nat} {cs : List Int} {ts : List ByteArray} (h : Seg s tg fr cs ts) : ∃ t ts', ts = t :: ts' ∧ fr + t.size ≤ tg.size ∧ t = tg.extract fr (fr + t.size) ∧
    ∀ (m : Int), m + ((tg.size : Int) - fr - t.size) ≤ 65536 → 0 ≤ m → chkL (s ++ b) cs ts' m = some (m + ((tg.size : Int) - fr - t.size)) ∧
    ∀ out, glueL (s ++ b) cs ts' out = out ++ tg.extract (fr + t.size) tg.size := by
  induction h with
  | last fr h hN =>
    have hz : (tg.extract fr tg.size).size = tg.size - fr := by rw [ByteArray.size_extract]; omega
    refine ⟨_, _, rfl, by omega, by rw [hz, show fr + (tg.size - fr) = tg.size by omega], fun m h1 h2 => ⟨?_, fun out => ?_⟩⟩
    · show some m = _
      rw [hz]
      congr 1
      omega
    · rw [hz]
      show out = _
      apply ByteArray.ext
      simp
      omega
  | copy fr p f n cs ts hf hN h4 hfs hl hm hm2 hp hS ih =>
    obtain ⟨t, ts', rfl, ht, hte, hi⟩ := ih
    have hz : (tg.extract fr p).size = p - fr := by rw [ByteArray.size_extract]; omega
    obtain ⟨q1, q2, q3, _⟩ := like_spec s tg f p (by omega) (by omega)
    rw [hl] at q1 q2 q3
    have hcp : ((s ++ b).extract f (s ++ b).size).extract 0 n = tg.extract p (p + n) := by
      rw [← ext_ext (s ++ b) f n (by rw [ByteArray.size_append]; omega)]
      rw [ext_eq_iff (s ++ b) tg f p n (by rw [ByteArray.size_append]; omega) (by omega)]
      intro j hj
      rw [bt_app s b (f + j) (by omega)]
      exact q3 j hj
    refine ⟨_, _, rfl, by omega, by rw [hz, show fr + (p - fr) = p by omega], fun m h1 h2 => ⟨?_, fun out => ?_⟩⟩
    · rw [hz] at h1
      have hno : ¬ outOf (s ++ b) (f : Int) (n : Int) := by unfold outOf; rw [ByteArray.size_append]; omega
      show (if outOf (s ++ b) (f : Int) (n : Int) then none else chkL (s ++ b) cs ts' (mn (m + n + (t.size : Int)) 65537)) = _
      rw [if_neg hno]
      have hmn : mn (m + n + (t.size : Int)) 65537 = m + n + (t.size : Int) := by unfold mn; split <;> omega
      rw [hmn, (hi (m + n + (t.size : Int)) (by omega) (by omega)).1, hz]
      congr 1
      omega
    · show glueL (s ++ b) cs ts' (out ++ ((s ++ b).extract (f : Int).toNat (s ++ b).size).extract 0 (n : Int).toNat ++ t) = _
      rw [show ((f : Int)).toNat = f by omega, show ((n : Int)).toNat = n by omega, hcp, hz, show fr + (p - fr) = p by omega]
      rw [hz] at h1
      rw [(hi (m + n + (t.size : Int)) (by omega) (by omega)).2]
      rw [hte, ByteArray.append_assoc, ByteArray.append_assoc]
      rw [show (tg.extract (p + n) (p + n + t.size)).size = t.size by rw [ByteArray.size_extract]; omega]
      rw [ext_cat tg (p + n) (p + n + t.size) tg.size (by omega) ht (Nat.le_refl _), ext_cat tg p (p + n) tg.size (by omega) hp (Nat.le_refl _)]
theorem Seg.apply {s tg : ByteArray} (b : ByteArray) {cs : List Int} {ts : List ByteArray} (h : Seg s tg 0 cs ts) (ht : tg.size ≤ 65536) : applyF (s ++ b) cs ts ⟨#[]⟩ false = (tg, 0) := by
  obtain ⟨t, ts', rfl, hz, hte, hi⟩ := h.glue b
  have hl := h.lens.1
  simp only [Nat.zero_add, List.length_cons] at hz hte hl
  rw [applyF_L _ _ _ _ (by omega)]
  obtain ⟨h1, h2⟩ := hi (t.size : Int) (by omega) (by omega)
  unfold applyL
  rw [h1]
  show (if 65536 < (t.size : Int) + ((tg.size : Int) - (0 : Nat) - t.size) then _ else _) = _
  rw [if_neg (by omega), h2, Nat.zero_add]
  congr 1
  rw [hte, show (tg.extract 0 t.size).size = t.size by rw [ByteArray.size_extract]; omega, ext_cat tg 0 t.size tg.size (by omega) hz (Nat.le_refl _), ext_all]
end Go.Proofs.Ytjjpiedcdcdejaa.Pure

