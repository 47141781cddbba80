/- The law DiffPieces. -/
import Derived.Test.YtjjpiedcdcdejaaDfS
import Derived.Test.YtjjpiedcdcdejaaPby6
set_option linter.unusedVariables false
set_option linter.unusedSimpArgs false
namespace Go.Proofs.Ytjjpiedcdcdejaa.Pure
open Go.RowKit Go.Proofs.Ytjjpiedcdcdejaa.Pb Go.Proofs.YtjjpiedcdcdejaaW.PrintWords Go.Proofs.YtjjpiedcdcdejaaW.PrintLast Go.Proofs.YtjjpiedcdcdejaaW.PrintMore Go.Proofs.Ytjjpiedcdcdejaa.Gw Go.Proofs.Ytjjpiedcdcdejaa.Df
theorem find_loop (s tg : ByteArray) (a n : Nat) (hs : s.size ≤ 1000000) (ht : tg.size ≤ 1000000) (hn : 1 ≤ n) (ha : a + n ≤ tg.size) (r : Int) (d : Nat) : ∀ k : Nat, s.size - k = d → k ≤ s.size → (∀ j, j < k → like s tg j a < n) →
    ((r = -1 ∧ ∀ j, j < s.size → like s tg j a < n) ∨ ∃ f : Nat, r = f ∧ f < s.size ∧ n ≤ like s tg f a ∧ ∀ j, j < f → like s tg j a < n) → Ev (fun q => abugidalaw24_find.l0 q s (tg.extract a (a + n)) k) r := by
  have hz : (tg.extract a (a + n)).size = n := by rw [ByteArray.size_extract]; omega
  induction d with
  | zero =>
    intro k hd hk hj hr
    refine Ev.step (fun k => abugidalaw24_find.l0.eq_2 ..) ?_
    rw [hz, wadd k n (by omega)]
    refine evN (by omega) ?_
    rcases hr with ⟨rfl, _⟩ | ⟨f, rfl, h1, h2, _⟩
    · exact Ev.now _
    · have := hj f (by omega); omega
  | succ d ih =>
    intro k hd hk hj hr
    refine Ev.step (fun k => abugidalaw24_find.l0.eq_2 ..) ?_
    rw [hz, wadd k n (by omega)]
    by_cases hc : k + n ≤ s.size
    · refine evI (by omega) ?_
      refine evI (by omega) ?_
      refine evI (by omega) ?_
      rw [Int.toNat_natCast, Int.toNat_natCast]
      by_cases he : n ≤ like s tg k a
      · refine evI (by rw [(ext_like s tg k a n hc ha).2 he]) ?_
        rcases hr with ⟨rfl, h⟩ | ⟨f, rfl, h1, h2, h3⟩
        · have := h k (by omega); omega
        · have e : f = k := by
            have : ¬ k < f := fun e => by have := h3 k e; omega
            have : ¬ f < k := fun e => by have := hj f e; omega
            omega
          subst e
          exact Ev.now _
      · refine evN (fun e => he ((ext_like s tg k a n hc ha).1 (ext_of_toList e))) ?_
        rw [wadd1 k (by omega)]
        have e1 : s.size - (k + 1) = d := by clear hr; omega
        have e2 : k + 1 ≤ s.size := by clear hr; omega
        refine ih (k + 1) e1 e2 (fun j hj2 => ?_) hr
        by_cases e : j = k
        · subst e; omega
        · exact hj j (by omega)
    · refine evN (by omega) ?_
      rcases hr with ⟨rfl, _⟩ | ⟨f, rfl, h1, h2, h3⟩
      · exact Ev.now _
      · have h4 := (like_spec s tg f a (by omega) (by omega)).1
        have := hj f (by omega)
        omega
theorem find_none (s tg : ByteArray) (a n : Nat) (hs : s.size ≤ 1000000) (ht : tg.size ≤ 1000000) (hn : 1 ≤ n) (ha : a + n ≤ tg.size) (h : ∀ j, j < s.size → like s tg j a < n) : Ev (fun q => abugidalaw24_find.f q s (tg.extract a (a + n))) (-1) :=
  find_loop s tg a n hs ht hn ha (-1) _ 0 rfl (Nat.zero_le _) (fun j hj => by omega) (.inl ⟨rfl, h⟩)
theorem find_at (s tg : ByteArray) (a n f : Nat) (hs : s.size ≤ 1000000) (ht : tg.size ≤ 1000000) (hn : 1 ≤ n) (ha : a + n ≤ tg.size) (hf : f < s.size) (h1 : n ≤ like s tg f a) (h2 : ∀ j, j < f → like s tg j a < n) : Ev (fun q => abugidalaw24_find.f q s (tg.extract a (a + n))) f :=
  find_loop s tg a n hs ht hn ha f _ 0 rfl (Nat.zero_le _) (fun j hj => by omega) (.inr ⟨f, rfl, hf, h1, h2⟩)
theorem wadd4 (a i : Nat) (h : a + i < 4611686018427387904) : wrap64 (wrap64 ((a : Int) + (i : Int)) + 4) = ((a + i + 4 : Nat) : Int) := by rw [wadd a i h, w64 (by omega) (by omega)]; omega
/-- The strings of a piece are walked, and what follows them. -/
theorem pieces_l1 (s tg : ByteArray) (hs : s.size ≤ 1000000) (ht : tg.size ≤ 1000000) (cs : List Int) (ts : List ByteArray) (hl : ts.length ≤ 100000) (fr k : Nat) (t : ByteArray) (hk : k < ts.length) (hkt : rdOf ByteArray.empty ts (k : Int) = t) (hz : fr + t.size ≤ tg.size) (hN : ∀ i, fr ≤ i → i < fr + t.size → NoL s tg i) (r : Bool)
    (h : ∀ i : Nat, Ev (fun q => abugidalaw24_DiffPieces.j3 q true s tg cs ts fr k i false) r) (d : Nat) : ∀ i : Nat, t.size - i = d → i ≤ t.size → Ev (fun q => abugidalaw24_DiffPieces.l1 q true s tg cs ts fr k i) r := by
  induction d with
  | zero =>
    intro i hd hi
    refine Ev.step (fun k => abugidalaw24_DiffPieces.l1.eq_2 ..) ?_
    rw [hkt]
    refine evI (by omega) ?_
    refine evI (by omega) ?_
    refine evN (by omega) ?_
    exact h i
  | succ d ih =>
    intro i hd hi
    refine Ev.step (fun k => abugidalaw24_DiffPieces.l1.eq_2 ..) ?_
    rw [hkt]
    refine evI (by omega) ?_
    refine evI (by omega) ?_
    refine evI (by omega) ?_
    rw [wadd4 fr i (by omega)]
    by_cases hc : fr + i + 4 ≤ tg.size
    · rw [show decide (((fr + i + 4 : Nat) : Int) ≤ (tg.size : Int)) = true from decide_eq_true (by omega)]
      refine Ev.step (fun k => abugidalaw24_DiffPieces.j3.eq_2 ..) ?_
      refine evI rfl ?_
      rw [wadd4 fr i (by omega), wadd fr i (by omega), wadd1 i (by omega)]
      refine evI (by omega) ?_
      refine evI (by omega) ?_
      refine evI (by omega) ?_
      rw [Int.toNat_natCast, Int.toNat_natCast]
      refine Ev.bind (find_none s tg (fr + i) 4 hs ht (by omega) hc (hN (fr + i) (by omega) (by omega))) ?_
      refine evN (by decide) ?_
      exact ih (i + 1) (by omega) (by omega)
    · rw [show decide (((fr + i + 4 : Nat) : Int) ≤ (tg.size : Int)) = false from decide_eq_false (by omega)]
      exact h i
theorem get_drop {α : Type} {l l' : List α} {x : α} {k : Nat} (h : l.drop k = x :: l') : l[k]? = some x ∧ l.drop (k + 1) = l' := by
  have h1 : k < l.length := by
    by_cases e : k < l.length
    · exact e
    · rw [List.drop_eq_nil_of_le (by omega)] at h; cases h
  rw [List.drop_eq_getElem_cons h1] at h
  injection h with h2 h3
  exact ⟨by rw [List.getElem?_eq_getElem h1, h2], h3⟩
theorem pieces_l0 (s tg : ByteArray) (hs : s.size ≤ 1000000) (ht : tg.size ≤ 1000000) (cs : List Int) (ts : List ByteArray) (hl : ts.length ≤ 100000) (hL : 2 * ts.length = cs.length + 2) {fr : Nat} {cs' : List Int} {ts' : List ByteArray} (h : Seg s tg fr cs' ts') :
    ∀ k : Nat, cs.drop (2 * k) = cs' → ts.drop k = ts' → Ev (fun q => abugidalaw24_DiffPieces.l0 q true s tg cs ts fr k) true := by
  induction h with
  | last fr h hN =>
    intro k hc hk
    obtain ⟨g1, g2⟩ := get_drop hk
    have hkl : k < ts.length := by rw [List.getElem?_eq_some_iff] at g1; exact g1.1
    have hcl : cs.length ≤ 2 * k := by
      by_cases e : cs.length ≤ 2 * k
      · exact e
      · rw [List.drop_eq_getElem_cons (by omega)] at hc; cases hc
    have hz : (tg.extract fr tg.size).size = tg.size - fr := by rw [ByteArray.size_extract]; omega
    have hkt := rd_some' g1
    refine Ev.step (fun k => abugidalaw24_DiffPieces.l0.eq_2 ..) ?_
    refine evI (by omega) ?_
    refine pieces_l1 s tg hs ht cs ts hl fr k _ hkl hkt (by omega) (fun i h1 h2 => hN i h1 (by omega)) true (fun i => ?_) _ 0 rfl (Nat.zero_le _)
    refine Ev.step (fun k => abugidalaw24_DiffPieces.j3.eq_2 ..) ?_
    refine evN Bool.false_ne_true ?_
    rw [w64 (x := 2 * (k : Int)) (by omega) (by omega), two_k k (by omega), hkt]
    refine evI (by omega) ?_
    refine evI (by omega) ?_
    refine evI (by omega) ?_
    refine evI rfl ?_
    rw [hz, wadd fr (tg.size - fr) (by omega), show (((fr + (tg.size - fr) : Nat) : Int) == (tg.size : Int)) = true from beq_iff_eq.2 (by omega)]
    exact Ev.now _
  | copy fr p f n cs2 ts2 hf hN h4 hfs hlk hm hm2 hp hS ih =>
    intro k hc hk
    obtain ⟨g1, g2⟩ := get_drop hk
    obtain ⟨c1, c2⟩ := get_drop hc
    obtain ⟨c3, c4⟩ := get_drop c2
    have hkl : k < ts.length := by rw [List.getElem?_eq_some_iff] at g1; exact g1.1
    have hcl : 2 * k + 1 < cs.length := by rw [List.getElem?_eq_some_iff] at c3; exact c3.1
    have hz : (tg.extract fr p).size = p - fr := by rw [ByteArray.size_extract]; omega
    have hkt := rd_some' g1
    have hr1 : rd cs (2 * (k : Int)) = f := by have := rdi_some c1; rwa [show ((2 * k : Nat) : Int) = 2 * (k : Int) by omega] at this
    have hr2 : rd cs (2 * (k : Int) + 1) = n := by have := rdi_some c3; rwa [show ((2 * k + 1 : Nat) : Int) = 2 * (k : Int) + 1 by omega] at this
    have hq := (like_spec s tg f p (by omega) (by omega)).1
    rw [hlk] at hq
    have nxt : Ev (fun q => abugidalaw24_DiffPieces.l0 q true s tg cs ts ((p + n : Nat) : Int) ((k + 1 : Nat) : Int)) true := ih (k + 1) (by rw [← c4, show 2 * (k + 1) = 2 * k + 1 + 1 by omega]) g2
    refine Ev.step (fun k => abugidalaw24_DiffPieces.l0.eq_2 ..) ?_
    refine evI (by omega) ?_
    refine pieces_l1 s tg hs ht cs ts hl fr k _ hkl hkt (by omega) (fun i h1 h2 => hN i h1 (by omega)) true (fun i => ?_) _ 0 rfl (Nat.zero_le _)
    refine Ev.step (fun k => abugidalaw24_DiffPieces.j3.eq_2 ..) ?_
    refine evN Bool.false_ne_true ?_
    rw [w64 (x := 2 * (k : Int)) (by omega) (by omega), two_k k (by omega), hkt, hr1, hr2, hz, wadd fr (p - fr) (by omega), show fr + (p - fr) = p by omega, wadd f n (by omega), wadd p n (by omega)]
    refine evI (by omega) ?_
    refine evI (by omega) ?_
    refine evN (by omega) ?_
    refine evI (by omega) ?_
    refine evI (by omega) ?_
    refine evI (by omega) ?_
    refine evI (by omega) ?_
    refine evN (by omega) ?_
    refine evN (by omega) ?_
    refine evN (by omega) ?_
    refine evN (by omega) ?_
    refine evI (by omega) ?_
    refine evI (by omega) ?_
    refine evI (by omega) ?_
    rw [Int.toNat_natCast, Int.toNat_natCast]
    refine Ev.bind (find_at s tg p n f hs ht (by omega) hp hfs (by omega) hm2) ?_
    rw [show (((f : Int)) != (f : Int)) = false from bne_eq_false_iff_eq.2 rfl]
    refine Ev.step (fun k => abugidalaw24_DiffPieces.j4.eq_2 ..) ?_
    refine evN Bool.false_ne_true ?_
    rw [wadd p n (by omega), wadd1 k (by omega), wadd1 (p + n) (by omega)]
    by_cases he : p + n < tg.size
    · refine evI (by omega) ?_
      refine evI (by omega) ?_
      refine evI (by omega) ?_
      refine evI (by omega) ?_
      rw [Int.toNat_natCast, Int.toNat_natCast]
      refine Ev.bind (find_none s tg p (n + 1) hs ht (by omega) (by omega) (fun j hj => by have := hm j hj; omega)) ?_
      refine evN (by decide) ?_
      exact nxt
    · refine evN (by omega) ?_
      exact nxt
theorem diffPieces_ev (c : ByteArray) (l : List Int) : Ev (fun k => abugidalaw24_DiffPieces.f k c l) true := by
  obtain ⟨t, ht, hT⟩ := target_ev c l
  have zc := cut200_size c
  have hS := Pcs_small' (cut200 c) t (by omega) (by omega)
  have hM := Make_ev (cut200 c) t (by omega) (by omega) hS
  have hG := Pcs_seg (cut200 c) t
  have hl := hG.lens
  have hz := TextsB_size (Pcs (cut200 c) t).2 (by omega) (fun x hx => by have := hG.bounds.2 x hx; omega)
  unfold MakeB codeB at hM
  generalize Pcs (cut200 c) t = p at hS hM hG hl hz
  obtain ⟨cs, ts⟩ := p
  dsimp only at hS hM hG hl hz
  have e0 : TextsB ts = TextsB ts ++ ⟨#[]⟩ := by apply ByteArray.ext; simp
  have hI := Ints_ev cs (TextsB ts) hS.c hS.o (by omega)
  have hX := Texts_ev ts ⟨#[]⟩ hS.t hS.z (by decide)
  rw [← e0] at hX
  unfold abugidalaw24_DiffPieces.f
  refine Ev.bind sanity_ev ?_
  refine Ev.bind (base_ev c l) ?_
  refine Ev.bind hT ?_
  refine Ev.bind hM ?_
  refine Ev.bind (Ev.now (IntsB cs ++ TextsB ts, false)) ?_
  refine Ev.bind hI ?_
  refine Ev.bind hX ?_
  refine Ev.bind (a := (false, (⟨#[]⟩ : ByteArray), false)) (Ev.now _) ?_
  refine evN Bool.false_ne_true ?_
  refine Ev.bind (a := (0, (⟨#[]⟩ : ByteArray), false)) (Ev.now _) ?_
  refine evI rfl ?_
  refine evI (by show (cs.length : Int) % 2 = 0; omega) ?_
  have hw : wrap64 (wrap64 ((cs.length : Int) / 2) + 1) = (cs.length : Int) / 2 + 1 := by rw [w64 (x := (cs.length : Int) / 2) (by omega) (by omega), w64 (by omega) (by omega)]
  show Ev (fun k => abugidalaw24_DiffPieces.j0 k true (cut200 c) t cs ts ((ts.length : Int) != wrap64 (wrap64 ((cs.length : Int) / 2) + 1))) _
  rw [hw, show ((ts.length : Int) != (cs.length : Int) / 2 + 1) = false from bne_eq_false_iff_eq.2 (by omega)]
  clear hw
  refine Ev.step (fun k => abugidalaw24_DiffPieces.j0.eq_2 ..) ?_
  refine evN Bool.false_ne_true ?_
  exact pieces_l0 (cut200 c) t (by omega) (by omega) cs ts (by omega) (by omega) hG 0 rfl rfl
theorem diffPieces_calls (w : World) (b : ByteArray) (zb : b.size ≤ 9223372036854775807)
    (A : Option Addr) (c : Nat) (l : List Int) (hC : Kd.C (Kd.int .i64) w A l.length l) (hc : l.length ≤ c) (hl : l.length ≤ 9223372036854775807) (hw : ∀ n ∈ l, (Lit.int .i64 n).wf = true) :
    Calls Try.prog 7 #[.agg #[.string b, .slice A l.length c]] w fun e w' => e = .returned (.bool true) ∧ Below w.heap.size w w' := by
  obtain ⟨k, hk⟩ := (diffPieces_ev b l).rounds
  exact abugidalaw24_DiffPieces.calls k b A c l true w hC hc hk
end Go.Proofs.Ytjjpiedcdcdejaa.Pure
