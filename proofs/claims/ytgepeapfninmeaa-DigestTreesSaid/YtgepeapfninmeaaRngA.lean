/- A law for 'for .. := range f' where the iterator f writes variables of its own and hands out rows of memory: what the body owns (the blocks O) is told apart from what the iterator may turn. No program in it. -/
import Derived.Test.YtgepeapfninmeaaWKept
import Derived.RangeFuncCalls
import Derived.RangeFuncLeaves
import Derived.RangeFuncRecord
import Derived.Shelf.Abstract
set_option linter.unusedVariables false
set_option linter.unusedSimpArgs false
namespace Go.Proofs.Ytgepeapfninmeaa.Rng
open Go.RowKit Go.Proofs.YtgepeapfninmeaaW.PrintWords
/-- Among the blocks that were there only those of T may be other ones; the rest of the world is as it was. -/
def Step (T : Nat → Prop) (W W' : World) : Prop := Kept W W' T ∧ Below 0 W W'
section
variable {T T' : Nat → Prop} {W W1 W2 : World}
theorem Step.refl (T : Nat → Prop) (W : World) : Step T W W := ⟨Kept.refl _ _, Below.refl _ _⟩
theorem Step.mono (h : Step T W W1) (ht : ∀ k, T k → T' k) : Step T' W W1 := ⟨h.1.mono ht, h.2⟩
theorem Step.trans (h : Step T W W1) (k : Step T' W1 W2) (ht : ∀ k, T' k → T k ∨ W.heap.size ≤ k) : Step T W W2 := ⟨h.1.then_ k.1 ht, h.2.trans k.2⟩
theorem Step.size (h : Step T W W1) : W.heap.size ≤ W1.heap.size := h.1.1
theorem Step.alloc (h : Step T W W1) (o : Obj) : Step T W (W1.alloc o) := ⟨h.1.alloc o, h.2.alloc (Nat.zero_le _) o⟩
theorem Step.drew (h : Step T W W1) : Step T W W1.drew := ⟨h.1.drew, h.2.drew⟩
theorem Step.setCell (h : Step T W W1) {p : Addr} (hp : T p.block ∨ W.heap.size ≤ p.block) (u : Value) : Step T W (W1.setCell p u) := ⟨h.1.setCell hp u, h.2.setCell (Nat.zero_le _) u⟩
theorem Step.of_below (h : Below W.heap.size W W1) (T : Nat → Prop) : Step T W W1 := ⟨Kept.of_below h T, h.mono (Nat.zero_le _)⟩
theorem Step.grown (h : Step T W W1) {row : Option Nat} (hg : W1.grownBy W2 row) (hr : ∀ k, row = some k → T k ∨ W.heap.size ≤ k) : Step T W W2 := ⟨Kept.of_grown hg h.1 hr, h.2.grown hg (Nat.zero_le _) (fun _ _ => Nat.zero_le _)⟩
theorem Step.below (h : Step T W W1) {B : Nat} (ht : ∀ k, T k → B ≤ k) (hB : B ≤ W.heap.size) : Below B W W1 :=
  ⟨h.2.os, h.2.tape, h.2.output, h.1.1, fun k hk => h.1.2 k (by omega) (fun e => by have := ht k e; omega)⟩
theorem Step.same (h : Step T W W1) {k : Nat} {o : Obj} (ho : W.heap[k]? = some o) (hk : ¬ T k) : W1.heap[k]? = some o :=
  (h.1.2 k (Array.getElem?_eq_some_iff.1 ho).1 hk).trans ho
theorem Step.putObj (W : World) (l : Nat) (o : Obj) : Step (fun k => k = l) W (W.putObj l o) :=
  (Step.refl _ W).grown (grownBy_putObj' W l o) (fun k e => by cases e; exact .inl rfl)
end
/-- THE ITERATOR'S CONTRACT. It hands out elements x (as the values 'encs x'), of each of which X holds in the world of that round (beside what came before); between rounds it turns its own variables T0 and what is new since it was called, but nothing of O, the blocks that the caller's rounds may write. -/
def Iter {α : Type} (F : Fence) (n : Nat) (P : Program) (gf : Nat) (lb : Array Value) (encs : α → Array Value) (X : List α → α → World → Prop) (T0 : Nat → Prop) (base : Nat) (S Sp : List α → Prop) (w : World) : Prop :=
  ∀ (l : Nat) (J Jx : List α → (Nat → Prop) → World → Prop) (W : World) (O : Nat → Prop), Below w.heap.size w W →
    (∀ pre O W1, J pre O W1 → ∀ k, O k → base ≤ k ∧ ¬ T0 k ∧ k < W1.heap.size) →
    (∀ pre O W1 W2, J pre O W1 → Step (fun k => T0 k ∨ (W.heap.size ≤ k ∧ ¬ O k)) W1 W2 → J pre O W2) →
    (∀ pre O W1 W2, Jx pre O W1 → Step (fun k => T0 k ∨ (W.heap.size ≤ k ∧ ¬ O k)) W1 W2 → Jx pre O W2) →
    (∀ pre x O W1, J pre O W1 → X pre x W1 → YieldAt F (n - 1) P l (encs x) W1 fun e W' =>
      (e = .returned (.bool true) ∧ ∃ O', J (pre ++ [x]) O' W' ∧ Step O W1 W' ∧ ∀ k, O' k → O k ∨ W1.heap.size ≤ k) ∨ (e = .returned (.bool false) ∧ ∃ O', Jx (pre ++ [x]) O' W')) →
    J [] O W →
    CallsIn F n P gf (#[.func (.yield l) #[] #[]] ++ lb) W fun e W' => (∃ v, e = .returned v) ∧ ((∃ xs O', S xs ∧ J xs O' W') ∨ (∃ pre O', Sp pre ∧ Jx pre O' W'))
/-- What the iterator leaves alone it may be said to turn. -/
theorem Iter.wider {α : Type} {F : Fence} {n : Nat} {P : Program} {gf : Nat} {lb : Array Value} {encs : α → Array Value} {X : List α → α → World → Prop} {T0 : Nat → Prop} {base : Nat} {S Sp : List α → Prop} {w : World}
    (h : Iter F n P gf lb encs X (fun _ => False) base S Sp w) : Iter F n P gf lb encs X T0 base S Sp w := by
  intro l J Jx W O hW hJO hJ hJx hY h0
  refine h l J Jx W O hW (fun pre O W1 hj k hk => ⟨(hJO pre O W1 hj k hk).1, fun h => h, (hJO pre O W1 hj k hk).2.2⟩) ?_ ?_ hY h0
  · exact fun pre O W1 W2 hj hst => hJ pre O W1 W2 hj (hst.mono (fun k hk => hk.elim (fun h => h.elim) .inr))
  · exact fun pre O W1 W2 hj hst => hJx pre O W1 W2 hj (hst.mono (fun k hk => hk.elim (fun h => h.elim) .inr))
/-- How the body of a round may be left. -/
def rgPost {α : Type} (I : List α → (Nat → Prop) → World → Prop) (Ix : Code → List α → (Nat → Prop) → World → Prop) (xs : List α) (O : Nat → Prop) (W : World) : Exit → Act → World → Prop
  | .normal, _, W' => ∃ O', I xs O' W' ∧ (∀ k, O' k → O k ∨ W.heap.size ≤ k) ∧ (∀ k, O' k → k < W'.heap.size) ∧ Step O W W'
  | .ret, _, W' => ∃ O', Ix .ret xs O' W' ∧ (∀ k, O' k → O k ∨ W.heap.size ≤ k) ∧ (∀ k, O' k → k < W'.heap.size) ∧ Step O W W'
  | .exit id, _, W' => ∃ O', Ix (.exit id) xs O' W' ∧ (∀ k, O' k → O k ∨ W.heap.size ≤ k) ∧ (∀ k, O' k → k < W'.heap.size) ∧ Step O W W'
  | .goto t, _, W' => ∃ O', Ix (.goto t) xs O' W' ∧ (∀ k, O' k → O k ∨ W.heap.size ≤ k) ∧ (∀ k, O' k → k < W'.heap.size) ∧ Step O W W'
  | .panic _, _, _ => False
  | .outgrown, _, _ => False
theorem wpIn_range {α : Type} {F : Fence} {n : Nat} {P : Program} {g : Operand} {ps : Array Tmp} {assign body : Code} {Q : Exit → Act → World → Prop} {a : Act} {w : World}
    (hro : F.round = none) (h1 : F.depth.isSome = true → 1 ≤ n) {gf : Nat} {lb : Array Value} (hg : a.eval g = .func (.func gf) #[] lb) (hFg : F.fn gf) (eg : ∀ args w, (callFunc gf args).run P w = .ok (.enter gf args) w)
    {encs : α → Array Value} {X : List α → α → World → Prop} {T0 : Nat → Prop} {base : Nat} {S Sp : List α → Prop} (hseq : Iter F (n - 1) P gf lb encs X T0 base S Sp w) (hps : ∀ x, (encs x).size = ps.size)
    (hX : ∀ pre x W l o o', X pre x W → W.heap[l]? = some o → o.isCells = false → X pre x (W.putObj l o'))
    (I : List α → (Nat → Prop) → World → Prop) (Ix : Code → List α → (Nat → Prop) → World → Prop)
    (hI : ∀ pre O W W', I pre O W → Step (fun k => base ≤ k ∧ ¬ O k) W W' → I pre O W')
    (hIx : ∀ c pre O W W', Ix c pre O W → Step (fun k => base ≤ k ∧ ¬ O k) W W' → Ix c pre O W')
    (hbase : base ≤ w.heap.size) (hT0 : ∀ k, T0 k → base ≤ k ∧ k < w.heap.size)
    (O0 : Nat → Prop) (hO0 : ∀ k, O0 k → base ≤ k ∧ ¬ T0 k ∧ k < w.heap.size) (h0 : I [] O0 w) (a₁ : α → Act)
    (hassign : ∀ (l : Nat) (x : α) (W : World) (K : Act → World → Prop), K (a₁ x) W →
      assign.wpIn (F.inRound l) (n - 1 - 1) P (Exit.then K (fun _ _ _ => False)) { tmps := (ps.zip (encs x)).foldl (fun t (p, v) => t.setIfInBounds p v) a.tmps, defers := [] } W)
    (hbody : ∀ (l : Nat) (pre : List α) (x : α) (O : Nat → Prop) (W : World), I pre O W → X pre x W → (∀ k, O k → base ≤ k ∧ k < W.heap.size) → w.heap.size ≤ W.heap.size → body.wpIn (F.inRound l) (n - 1 - 1) P (rgPost I Ix (pre ++ [x]) O W) (a₁ x) W)
    (hdone : ∀ (D : Nat) (xs : List α) (O : Nat → Prop) (W : World), w.heap.size ≤ D → S xs → I xs O W → ¬ O D → W.heap[D]? = some (.deferred (some [])) → Q .normal { a with defers := { target := .collected D, args := #[] } :: a.defers } W)
    (hstop : ∀ (D : Nat) (c : Code) (pre : List α) (O : Nat → Prop) (W : World), w.heap.size ≤ D → Sp pre → Ix c pre O W → ¬ O D → W.heap[D]? = some (.deferred (some [])) → c.wpIn F n P Q { a with defers := { target := .collected D, args := #[] } :: a.defers } W) :
    (Code.rangeFunc g ps assign body).wpIn F n P Q a w := by
  refine wpIn_rangeFunc ?_
  intro fn hfn
  rw [hro]
  obtain ⟨rec, hrec⟩ : ∃ rec : LoopState → Option Code → Loop, rec = fun st pe => { state := st, pending := pe, fn, tmps := a.tmps, params := ps, assign, body, defers := w.heap.size } := ⟨_, rfl⟩
  obtain ⟨W1, hW1⟩ : ∃ W1, (w.alloc (.deferred (some []))).alloc (.loop (rec .ready none)) = W1 := ⟨_, rfl⟩
  have hL1 : W1.heap[w.heap.size + 1]? = some (.loop (rec .ready none)) := by
    rw [← hW1]; have := World.alloc_heap_new (w.alloc (.deferred (some []))) (.loop (rec .ready none)); rwa [World.size_alloc] at this
  have hK1 : W1.heap[w.heap.size]? = some (.deferred (some [])) := by
    rw [← hW1]; exact (Below.heap_alloc _ _ _ (by simp)).trans (World.alloc_heap_new w _)
  have hb1 : Below w.heap.size w W1 := by
    rw [← hW1]; exact ((Below.refl _ w).alloc (Nat.le_refl _) _).alloc (by simp) _
  have hs1 : W1.heap.size = w.heap.size + 1 + 1 := by rw [← hW1]; simp
  have hI1 : I [] O0 W1 := hI _ _ _ _ h0 (Step.of_below hb1 _)
  -- what the blocks of O are
  obtain ⟨OK, hOK⟩ : ∃ OK : (Nat → Prop) → World → Prop, OK = fun O W => ∀ k, O k → base ≤ k ∧ ¬ T0 k ∧ k ≠ w.heap.size ∧ k ≠ w.heap.size + 1 ∧ k < W.heap.size := ⟨_, rfl⟩
  have hstep : ∀ {O : Nat → Prop} {A B : World}, Step (fun k => T0 k ∨ (W1.heap.size ≤ k ∧ ¬ O k)) A B → OK O A → Step (fun k => base ≤ k ∧ ¬ O k) A B ∧ OK O B ∧ (∀ o, A.heap[w.heap.size + 1]? = some o → B.heap[w.heap.size + 1]? = some o) ∧ (∀ o, A.heap[w.heap.size]? = some o → B.heap[w.heap.size]? = some o) := by
    intro O A B hst hok
    rw [hOK] at hok
    refine ⟨hst.mono (fun k hk => ?_), ?_, fun o ho => hst.same ho ?_, fun o ho => hst.same ho ?_⟩
    · rcases hk with hk | hk
      · exact ⟨(hT0 k hk).1, fun e => (hok k e).2.1 hk⟩
      · exact ⟨by omega, hk.2⟩
    · rw [hOK]
      intro k hk
      obtain ⟨a1, a2, a3, a4, a5⟩ := hok k hk
      exact ⟨a1, a2, a3, a4, Nat.lt_of_lt_of_le a5 hst.size⟩
    · rintro (hk | hk)
      · have := (hT0 _ hk).2; omega
      · omega
    · rintro (hk | hk)
      · have := (hT0 _ hk).2; omega
      · omega
  refine ⟨w.heap.size + 1, [{ target := .collected w.heap.size, args := #[] }], W1, { target := .fn (.func gf) lb, args := #[.func (.yield (w.heap.size + 1)) #[] #[]] }, W1, gf,
    #[.func (.yield (w.heap.size + 1)) #[] #[]] ++ lb, W1, ?_, ?_, ?_, ?_, h1, ?_⟩
  · rw [← hW1, hrec]; exact run_enterLoop_outer _ _ _ _ _
  · simp only [resolve, hg]
    simp [go_sem]
  · intro f' hf'; simp [Target.leads] at hf'; subst hf'; exact hFg
  · simp [invoke, go_sem, eg]
  refine (hseq (w.heap.size + 1)
    (fun pre O W => I pre O W ∧ OK O W ∧ W.heap[w.heap.size + 1]? = some (.loop (rec .ready none)) ∧ W.heap[w.heap.size]? = some (.deferred (some [])))
    (fun pre O W => ∃ c, Ix c pre O W ∧ OK O W ∧ W.heap[w.heap.size + 1]? = some (.loop (rec .done (some c))) ∧ W.heap[w.heap.size]? = some (.deferred (some [])))
    W1 O0 hb1 ?_ ?_ ?_ ?_ ?_).mono ?_
  · rintro pre O A ⟨_, hok, _⟩ k hk
    rw [hOK] at hok
    obtain ⟨a1, a2, a3, a4, a5⟩ := hok k hk
    exact ⟨a1, a2, a5⟩
  · rintro pre O A B ⟨hi, hok, hl, hk⟩ hst
    obtain ⟨s1, s2, s3, s4⟩ := hstep hst hok
    exact ⟨hI _ _ _ _ hi s1, s2, s3 _ hl, s4 _ hk⟩
  · rintro pre O A B ⟨c, hi, hok, hl, hk⟩ hst
    obtain ⟨s1, s2, s3, s4⟩ := hstep hst hok
    exact ⟨c, hIx _ _ _ _ _ hi s1, s2, s3 _ hl, s4 _ hk⟩
  · -- one round
    rintro pre x O W ⟨hi, hok, hl, hk⟩ hx
    rw [hOK] at hok
    have hlt : w.heap.size + 1 < W.heap.size := (Array.getElem?_eq_some_iff.1 hl).1
    have hy := run_yield (P := P) (args := encs x) hl (by rw [hrec]; exact hps x)
    rw [hrec] at hy
    refine ⟨fn, _, assign, body, hy, roundIn_of_wpIn hfn (hassign _ x W _ ⟨_, run_beginRound hl (by rw [hrec]), ?_⟩)⟩
    obtain ⟨V, hV⟩ : ∃ V, V = W.putObj (w.heap.size + 1) (.loop { rec .ready none with state := .busy }) := ⟨_, rfl⟩
    rw [← hV]
    have sV : Step (fun k => k = w.heap.size + 1) W V := by rw [hV]; exact Step.putObj _ _ _
    have zV : V.heap.size = W.heap.size := by rw [hV]; simp
    have hl2 : V.heap[w.heap.size + 1]? = some (.loop { rec .ready none with state := .busy }) := by rw [hV]; exact World.putObj_heap_same hlt
    have hk2 : V.heap[w.heap.size]? = some (.deferred (some [])) := sV.same hk (by omega)
    have hiV : I pre O V := hI _ _ _ _ hi (sV.mono (fun k e => by subst e; exact ⟨by omega, fun hk => (hok _ hk).2.2.2.1 rfl⟩))
    have hxV : X pre x V := by rw [hV]; exact hX _ _ _ _ _ _ hx hl rfl
    refine wpIn_mono (hbody _ pre x O V hiV hxV (fun k hk => ⟨(hok k hk).1, by rw [zV]; exact (hok k hk).2.2.2.2⟩) (by omega)) ?_
    -- the round's end
    have fin : ∀ (jump : Option Code) (V3 : World), Step O V V3 → ∃ V4,
        (Instr.endRound (w.heap.size + 1) jump).run P V3 = .ok (.bool jump.isNone) V4 ∧ Step (fun k => k = w.heap.size + 1) V3 V4 ∧
        V4.heap[w.heap.size + 1]? = some (.loop (rec (if jump.isNone then .ready else .done) jump)) ∧ V4.heap[w.heap.size]? = some (.deferred (some [])) ∧ V4.heap.size = V3.heap.size := by
      intro jump V3 hs3
      have hl3 := hs3.same hl2 (fun e => (hok _ e).2.2.2.1 rfl)
      have hk3 := hs3.same hk2 (fun e => (hok _ e).2.2.1 rfl)
      have := run_endRound (P := P) jump hl3
      rw [hrec] at this ⊢
      rw [hrec] at hl3
      exact ⟨_, this, Step.putObj _ _ _, World.putObj_heap_same (Array.getElem?_eq_some_iff.1 hl3).1, (Step.putObj _ _ _).same hk3 (by omega), by simp⟩
    have okx : ∀ {O' : Nat → Prop} {V3 V4 : World}, (∀ k, O' k → O k ∨ V.heap.size ≤ k) → (∀ k, O' k → k < V3.heap.size) → V4.heap.size = V3.heap.size → OK O' V4 ∧ ∀ k, (k = w.heap.size + 1) → base ≤ k ∧ ¬ O' k := by
      intro O' V3 V4 hgrow hlt3 hz
      rw [hOK]
      have hne : ∀ k, O' k → base ≤ k ∧ ¬ T0 k ∧ k ≠ w.heap.size ∧ k ≠ w.heap.size + 1 := by
        intro k hk
        rcases hgrow k hk with h | h
        · obtain ⟨a1, a2, a3, a4, a5⟩ := hok k h
          exact ⟨a1, a2, a3, a4⟩
        · rw [zV] at h
          exact ⟨by omega, fun e => by have := (hT0 k e).2; omega, by omega, by omega⟩
      exact ⟨fun k hk => ⟨(hne k hk).1, (hne k hk).2.1, (hne k hk).2.2.1, (hne k hk).2.2.2, by rw [hz]; exact hlt3 k hk⟩, fun k e => by subst e; exact ⟨by omega, fun hk => (hne _ hk).2.2.2 rfl⟩⟩
    rintro e a3 V3 hp
    cases e with
    | normal =>
      obtain ⟨O', hi3, hgrow, hlt3, hs3⟩ := hp
      obtain ⟨V4, hr, s4, hl4, hk4, z4⟩ := fin none V3 hs3
      obtain ⟨hok4, hno⟩ := okx hgrow hlt3 z4
      refine ⟨_, _, hr, .inl ⟨rfl, O', ⟨hI _ _ _ _ hi3 (s4.mono hno), hok4, hl4, hk4⟩, ?_, fun k hk => by rw [← zV]; exact hgrow k hk⟩⟩
      refine ⟨⟨Nat.le_trans sV.size (Nat.le_trans hs3.size s4.size), fun i hi ho => ?_⟩, (sV.2.trans hs3.2).trans s4.2⟩
      by_cases e : i = w.heap.size + 1
      · subst e; rw [hl4, hl]; rfl
      · rw [s4.1.2 i (by have := hs3.size; omega) e, hs3.1.2 i (by omega) ho, sV.1.2 i hi e]
    | ret =>
      obtain ⟨O', hi3, hgrow, hlt3, hs3⟩ := hp
      obtain ⟨V4, hr, s4, hl4, hk4, z4⟩ := fin (some .ret) V3 hs3
      obtain ⟨hok4, hno⟩ := okx hgrow hlt3 z4
      exact ⟨_, _, hr, .inr ⟨rfl, O', .ret, hIx _ _ _ _ _ hi3 (s4.mono hno), hok4, hl4, hk4⟩⟩
    | exit id =>
      obtain ⟨O', hi3, hgrow, hlt3, hs3⟩ := hp
      obtain ⟨V4, hr, s4, hl4, hk4, z4⟩ := fin (some (.exit id)) V3 hs3
      obtain ⟨hok4, hno⟩ := okx hgrow hlt3 z4
      exact ⟨_, _, hr, .inr ⟨rfl, O', .exit id, hIx _ _ _ _ _ hi3 (s4.mono hno), hok4, hl4, hk4⟩⟩
    | goto t =>
      obtain ⟨O', hi3, hgrow, hlt3, hs3⟩ := hp
      obtain ⟨V4, hr, s4, hl4, hk4, z4⟩ := fin (some (.goto t)) V3 hs3
      obtain ⟨hok4, hno⟩ := okx hgrow hlt3 z4
      exact ⟨_, _, hr, .inr ⟨rfl, O', .goto t, hIx _ _ _ _ _ hi3 (s4.mono hno), hok4, hl4, hk4⟩⟩
    | panic ch => exact hp.elim
    | outgrown => exact hp.elim
  · refine ⟨hI1, ?_, hL1, hK1⟩
    rw [hOK]
    intro k hk
    obtain ⟨a1, a2, a3⟩ := hO0 k hk
    exact ⟨a1, a2, by omega, by omega, by omega⟩
  · -- behind the iterator
    have nOK : ∀ {O' : Nat → Prop} {A : World}, OK O' A → (∀ k, (k = w.heap.size + 1) → base ≤ k ∧ ¬ O' k) ∧ ¬ O' w.heap.size := by
      intro O' A h
      rw [hOK] at h
      exact ⟨fun k e => by subst e; exact ⟨by omega, fun hk => (h _ hk).2.2.2.1 rfl⟩, fun hk => (h _ hk).2.2.1 rfl⟩
    rintro e W2 ⟨⟨v, rfl⟩, (⟨xs, O', hS, hi, hok, hl, hk⟩ | ⟨pre, O', hSp, c, hi, hok, hl, hk⟩)⟩
    · have he := run_endLoop (P := P) hl (by rw [hrec]; simp)
      rw [hrec] at he
      obtain ⟨n1, n2⟩ := nOK hok
      exact ⟨none, _, he, hdone _ xs O' _ (Nat.le_refl _) hS (hI _ _ _ _ hi ((Step.putObj _ _ _).mono n1)) n2 ((Step.putObj _ _ _).same hk (by omega))⟩
    · have he := run_endLoop (P := P) hl (by rw [hrec]; simp)
      rw [hrec] at he
      obtain ⟨n1, n2⟩ := nOK hok
      exact ⟨some c, _, he, hstop _ c pre O' _ (Nat.le_refl _) hSp (hIx _ _ _ _ _ hi ((Step.putObj _ _ _).mono n1)) n2 ((Step.putObj _ _ _).same hk (by omega))⟩
end Go.Proofs.Ytgepeapfninmeaa.Rng
