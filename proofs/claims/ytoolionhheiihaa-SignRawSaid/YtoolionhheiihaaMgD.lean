/- Several texts of this claim, one behind the other: RngA, RngB, DgA, DgB, DgC, DgD, DgE, DgQ, DgV, DgL, DgR, DgP, DgG. -/
import Derived.Test.YtoolionhheiihaaWKept
import Derived.RangeFuncCalls
import Derived.RangeFuncLeaves
import Derived.RangeFuncRecord
import Derived.Shelf.Abstract
import Derived.Shelf.RegionOpen
import Derived.Deep.AppendLies
import Derived.Test.YtoolionhheiihaaProg
import Derived.Lib.Hide
import Derived.BigRegion
import Derived.Laws.Rows
import Derived.Laws.NewBlocks
import Derived.Deep.RegionWith
import Derived.Laws.BytesArg
import Derived.ShutString
import Derived.Deep.QuietTactic
import Derived.BigQuiet
import Derived.ChangeKeysEq
import Derived.Laws.StructEq
import Derived.Lib.ConvBytes
import Derived.Laws.BitsLemmas
import Derived.OwnWalkIn
import Derived.TacticsInMore
import Derived.LoopNIn
import Derived.LoopIn
import Derived.Laws.CopyOwn
import Derived.IntWalk
import Derived.Deep.OwnRows
/- A law for 'for .. := range f' where the iterator f writes variables of its own and hands out rows of memory: what the body owns (the blocks O) is told apart from what the iterator may turn. No program in it. -/
set_option linter.unusedVariables false
set_option linter.unusedSimpArgs false
namespace Go.Proofs.Ytoolionhheiihaa.Rng
open Go.RowKit Go.Proofs.YtoolionhheiihaaW.PrintWords
/-- Among the blocks that were there only those of T may be other ones; the rest of the world is as it was. -/
def Step (T : Nat → Prop) (W W' : World) : Prop := Kept W W' T ∧ Below 0 W W'
section
variable {T T' : Nat → Prop} {W W1 W2 : World}
theorem Step.refl (T : Nat → Prop) (W : World) : Step T W W := ⟨Kept.refl _ _, Below.refl _ _⟩
theorem Step.mono (h : Step T W W1) (ht : ∀ k, T k → T' k) : Step T' W W1 := ⟨h.1.mono ht, h.2⟩
theorem Step.trans (h : Step T W W1) (k : Step T' W1 W2) (ht : ∀ k, T' k → T k ∨ W.heap.size ≤ k) : Step T W W2 := ⟨h.1.then_ k.1 ht, h.2.trans k.2⟩
theorem Step.size (h : Step T W W1) : W.heap.size ≤ W1.heap.size := h.1.1
theorem Step.alloc (h : Step T W W1) (o : Obj) : Step T W (W1.alloc o) := ⟨h.1.alloc o, h.2.alloc (Nat.zero_le _) o⟩
theorem Step.drew (h : Step T W W1) : Step T W W1.drew := ⟨h.1.drew, h.2.drew⟩
theorem Step.setCell (h : Step T W W1) {p : Addr} (hp : T p.block ∨ W.heap.size ≤ p.block) (u : Value) : Step T W (W1.setCell p u) := ⟨h.1.setCell hp u, h.2.setCell (Nat.zero_le _) u⟩
theorem Step.of_below (h : Below W.heap.size W W1) (T : Nat → Prop) : Step T W W1 := ⟨Kept.of_below h T, h.mono (Nat.zero_le _)⟩
theorem Step.grown (h : Step T W W1) {row : Option Nat} (hg : W1.grownBy W2 row) (hr : ∀ k, row = some k → T k ∨ W.heap.size ≤ k) : Step T W W2 := ⟨Kept.of_grown hg h.1 hr, h.2.grown hg (Nat.zero_le _) (fun _ _ => Nat.zero_le _)⟩
theorem Step.below (h : Step T W W1) {B : Nat} (ht : ∀ k, T k → B ≤ k) (hB : B ≤ W.heap.size) : Below B W W1 :=
  ⟨h.2.os, h.2.tape, h.2.output, h.1.1, fun k hk => h.1.2 k (by omega) (fun e => by have := ht k e; omega)⟩
theorem Step.same (h : Step T W W1) {k : Nat} {o : Obj} (ho : W.heap[k]? = some o) (hk : ¬ T k) : W1.heap[k]? = some o :=
  (h.1.2 k (Array.getElem?_eq_some_iff.1 ho).1 hk).trans ho
theorem Step.putObj (W : World) (l : Nat) (o : Obj) : Step (fun k => k = l) W (W.putObj l o) :=
  (Step.refl _ W).grown (grownBy_putObj' W l o) (fun k e => by cases e; exact .inl rfl)
end
/-- THE ITERATOR'S CONTRACT. It hands out elements x (as the values 'encs x'), of each of which X holds in the world of that round (beside what came before); between rounds it turns its own variables T0 and what is new since it was called, but nothing of O, the blocks that the caller's rounds may write. -/
def Iter {α : Type} (F : Fence) (n : Nat) (P : Program) (gf : Nat) (lb : Array Value) (encs : α → Array Value) (X : List α → α → World → Prop) (T0 : Nat → Prop) (base : Nat) (S Sp : List α → Prop) (w : World) : Prop :=
  ∀ (l : Nat) (J Jx : List α → (Nat → Prop) → World → Prop) (W : World) (O : Nat → Prop), Below w.heap.size w W →
    (∀ pre O W1, J pre O W1 → ∀ k, O k → base ≤ k ∧ ¬ T0 k ∧ k < W1.heap.size) →
    (∀ pre O W1 W2, J pre O W1 → Step (fun k => T0 k ∨ (W.heap.size ≤ k ∧ ¬ O k)) W1 W2 → J pre O W2) →
    (∀ pre O W1 W2, Jx pre O W1 → Step (fun k => T0 k ∨ (W.heap.size ≤ k ∧ ¬ O k)) W1 W2 → Jx pre O W2) →
    (∀ pre x O W1, J pre O W1 → X pre x W1 → YieldAt F (n - 1) P l (encs x) W1 fun e W' =>
      (e = .returned (.bool true) ∧ ∃ O', J (pre ++ [x]) O' W' ∧ Step O W1 W' ∧ ∀ k, O' k → O k ∨ W1.heap.size ≤ k) ∨ (e = .returned (.bool false) ∧ ∃ O', Jx (pre ++ [x]) O' W')) →
    J [] O W →
    CallsIn F n P gf (#[.func (.yield l) #[] #[]] ++ lb) W fun e W' => (∃ v, e = .returned v) ∧ ((∃ xs O', S xs ∧ J xs O' W') ∨ (∃ pre O', Sp pre ∧ Jx pre O' W'))
/-- What the iterator leaves alone it may be said to turn. -/
theorem Iter.wider {α : Type} {F : Fence} {n : Nat} {P : Program} {gf : Nat} {lb : Array Value} {encs : α → Array Value} {X : List α → α → World → Prop} {T0 : Nat → Prop} {base : Nat} {S Sp : List α → Prop} {w : World}
    (h : Iter F n P gf lb encs X (fun _ => False) base S Sp w) : Iter F n P gf lb encs X T0 base S Sp w := by
  intro l J Jx W O hW hJO hJ hJx hY h0
  refine h l J Jx W O hW (fun pre O W1 hj k hk => ⟨(hJO pre O W1 hj k hk).1, fun h => h, (hJO pre O W1 hj k hk).2.2⟩) ?_ ?_ hY h0
  · exact fun pre O W1 W2 hj hst => hJ pre O W1 W2 hj (hst.mono (fun k hk => hk.elim (fun h => h.elim) .inr))
  · exact fun pre O W1 W2 hj hst => hJx pre O W1 W2 hj (hst.mono (fun k hk => hk.elim (fun h => h.elim) .inr))
/-- How the body of a round may be left. -/
def rgPost {α : Type} (I : List α → (Nat → Prop) → World → Prop) (Ix : Code → List α → (Nat → Prop) → World → Prop) (xs : List α) (O : Nat → Prop) (W : World) : Exit → Act → World → Prop
  | .normal, _, W' => ∃ O', I xs O' W' ∧ (∀ k, O' k → O k ∨ W.heap.size ≤ k) ∧ (∀ k, O' k → k < W'.heap.size) ∧ Step O W W'
  | .ret, _, W' => ∃ O', Ix .ret xs O' W' ∧ (∀ k, O' k → O k ∨ W.heap.size ≤ k) ∧ (∀ k, O' k → k < W'.heap.size) ∧ Step O W W'
  | .exit id, _, W' => ∃ O', Ix (.exit id) xs O' W' ∧ (∀ k, O' k → O k ∨ W.heap.size ≤ k) ∧ (∀ k, O' k → k < W'.heap.size) ∧ Step O W W'
  | .goto t, _, W' => ∃ O', Ix (.goto t) xs O' W' ∧ (∀ k, O' k → O k ∨ W.heap.size ≤ k) ∧ (∀ k, O' k → k < W'.heap.size) ∧ Step O W W'
  | .panic _, _, _ => False
  | .outgrown, _, _ => False
theorem wpIn_range {α : Type} {F : Fence} {n : Nat} {P : Program} {g : Operand} {ps : Array Tmp} {assign body : Code} {Q : Exit → Act → World → Prop} {a : Act} {w : World}
    (hro : F.round = none) (h1 : F.depth.isSome = true → 1 ≤ n) {gf : Nat} {lb : Array Value} (hg : a.eval g = .func (.func gf) #[] lb) (hFg : F.fn gf) (eg : ∀ args w, (callFunc gf args).run P w = .ok (.enter gf args) w)
    {encs : α → Array Value} {X : List α → α → World → Prop} {T0 : Nat → Prop} {base : Nat} {S Sp : List α → Prop} (hseq : Iter F (n - 1) P gf lb encs X T0 base S Sp w) (hps : ∀ x, (encs x).size = ps.size)
    (hX : ∀ pre x W l o o', X pre x W → W.heap[l]? = some o → o.isCells = false → X pre x (W.putObj l o'))
    (I : List α → (Nat → Prop) → World → Prop) (Ix : Code → List α → (Nat → Prop) → World → Prop)
    (hI : ∀ pre O W W', I pre O W → Step (fun k => base ≤ k ∧ ¬ O k) W W' → I pre O W')
    (hIx : ∀ c pre O W W', Ix c pre O W → Step (fun k => base ≤ k ∧ ¬ O k) W W' → Ix c pre O W')
    (hbase : base ≤ w.heap.size) (hT0 : ∀ k, T0 k → base ≤ k ∧ k < w.heap.size)
    (O0 : Nat → Prop) (hO0 : ∀ k, O0 k → base ≤ k ∧ ¬ T0 k ∧ k < w.heap.size) (h0 : I [] O0 w) (a₁ : α → Act)
    (hassign : ∀ (l : Nat) (x : α) (W : World) (K : Act → World → Prop), K (a₁ x) W →
      assign.wpIn (F.inRound l) (n - 1 - 1) P (Exit.then K (fun _ _ _ => False)) { tmps := (ps.zip (encs x)).foldl (fun t (p, v) => t.setIfInBounds p v) a.tmps, defers := [] } W)
    (hbody : ∀ (l : Nat) (pre : List α) (x : α) (O : Nat → Prop) (W : World), I pre O W → X pre x W → (∀ k, O k → base ≤ k ∧ k < W.heap.size) → w.heap.size ≤ W.heap.size → body.wpIn (F.inRound l) (n - 1 - 1) P (rgPost I Ix (pre ++ [x]) O W) (a₁ x) W)
    (hdone : ∀ (D : Nat) (xs : List α) (O : Nat → Prop) (W : World), w.heap.size ≤ D → S xs → I xs O W → ¬ O D → W.heap[D]? = some (.deferred (some [])) → Q .normal { a with defers := { target := .collected D, args := #[] } :: a.defers } W)
    (hstop : ∀ (D : Nat) (c : Code) (pre : List α) (O : Nat → Prop) (W : World), w.heap.size ≤ D → Sp pre → Ix c pre O W → ¬ O D → W.heap[D]? = some (.deferred (some [])) → c.wpIn F n P Q { a with defers := { target := .collected D, args := #[] } :: a.defers } W) :
    (Code.rangeFunc g ps assign body).wpIn F n P Q a w := by
  refine wpIn_rangeFunc ?_
  intro fn hfn
  rw [hro]
  obtain ⟨rec, hrec⟩ : ∃ rec : LoopState → Option Code → Loop, rec = fun st pe => { state := st, pending := pe, fn, tmps := a.tmps, params := ps, assign, body, defers := w.heap.size } := ⟨_, rfl⟩
  obtain ⟨W1, hW1⟩ : ∃ W1, (w.alloc (.deferred (some []))).alloc (.loop (rec .ready none)) = W1 := ⟨_, rfl⟩
  have hL1 : W1.heap[w.heap.size + 1]? = some (.loop (rec .ready none)) := by
    rw [← hW1]; have := World.alloc_heap_new (w.alloc (.deferred (some []))) (.loop (rec .ready none)); rwa [World.size_alloc] at this
  have hK1 : W1.heap[w.heap.size]? = some (.deferred (some [])) := by
    rw [← hW1]; exact (Below.heap_alloc _ _ _ (by simp)).trans (World.alloc_heap_new w _)
  have hb1 : Below w.heap.size w W1 := by
    rw [← hW1]; exact ((Below.refl _ w).alloc (Nat.le_refl _) _).alloc (by simp) _
  have hs1 : W1.heap.size = w.heap.size + 1 + 1 := by rw [← hW1]; simp
  have hI1 : I [] O0 W1 := hI _ _ _ _ h0 (Step.of_below hb1 _)
  -- what the blocks of O are
  obtain ⟨OK, hOK⟩ : ∃ OK : (Nat → Prop) → World → Prop, OK = fun O W => ∀ k, O k → base ≤ k ∧ ¬ T0 k ∧ k ≠ w.heap.size ∧ k ≠ w.heap.size + 1 ∧ k < W.heap.size := ⟨_, rfl⟩
  have hstep : ∀ {O : Nat → Prop} {A B : World}, Step (fun k => T0 k ∨ (W1.heap.size ≤ k ∧ ¬ O k)) A B → OK O A → Step (fun k => base ≤ k ∧ ¬ O k) A B ∧ OK O B ∧ (∀ o, A.heap[w.heap.size + 1]? = some o → B.heap[w.heap.size + 1]? = some o) ∧ (∀ o, A.heap[w.heap.size]? = some o → B.heap[w.heap.size]? = some o) := by
    intro O A B hst hok
    rw [hOK] at hok
    refine ⟨hst.mono (fun k hk => ?_), ?_, fun o ho => hst.same ho ?_, fun o ho => hst.same ho ?_⟩
    · rcases hk with hk | hk
      · exact ⟨(hT0 k hk).1, fun e => (hok k e).2.1 hk⟩
      · exact ⟨by omega, hk.2⟩
    · rw [hOK]
      intro k hk
      obtain ⟨a1, a2, a3, a4, a5⟩ := hok k hk
      exact ⟨a1, a2, a3, a4, Nat.lt_of_lt_of_le a5 hst.size⟩
    · rintro (hk | hk)
      · have := (hT0 _ hk).2; omega
      · omega
    · rintro (hk | hk)
      · have := (hT0 _ hk).2; omega
      · omega
  refine ⟨w.heap.size + 1, [{ target := .collected w.heap.size, args := #[] }], W1, { target := .fn (.func gf) lb, args := #[.func (.yield (w.heap.size + 1)) #[] #[]] }, W1, gf,
    #[.func (.yield (w.heap.size + 1)) #[] #[]] ++ lb, W1, ?_, ?_, ?_, ?_, h1, ?_⟩
  · rw [← hW1, hrec]; exact run_enterLoop_outer _ _ _ _ _
  · simp only [resolve, hg]
    simp [go_sem]
  · intro f' hf'; simp [Target.leads] at hf'; subst hf'; exact hFg
  · simp [invoke, go_sem, eg]
  refine (hseq (w.heap.size + 1)
    (fun pre O W => I pre O W ∧ OK O W ∧ W.heap[w.heap.size + 1]? = some (.loop (rec .ready none)) ∧ W.heap[w.heap.size]? = some (.deferred (some [])))
    (fun pre O W => ∃ c, Ix c pre O W ∧ OK O W ∧ W.heap[w.heap.size + 1]? = some (.loop (rec .done (some c))) ∧ W.heap[w.heap.size]? = some (.deferred (some [])))
    W1 O0 hb1 ?_ ?_ ?_ ?_ ?_).mono ?_
  · rintro pre O A ⟨_, hok, _⟩ k hk
    rw [hOK] at hok
    obtain ⟨a1, a2, a3, a4, a5⟩ := hok k hk
    exact ⟨a1, a2, a5⟩
  · rintro pre O A B ⟨hi, hok, hl, hk⟩ hst
    obtain ⟨s1, s2, s3, s4⟩ := hstep hst hok
    exact ⟨hI _ _ _ _ hi s1, s2, s3 _ hl, s4 _ hk⟩
  · rintro pre O A B ⟨c, hi, hok, hl, hk⟩ hst
    obtain ⟨s1, s2, s3, s4⟩ := hstep hst hok
    exact ⟨c, hIx _ _ _ _ _ hi s1, s2, s3 _ hl, s4 _ hk⟩
  · -- one round
    rintro pre x O W ⟨hi, hok, hl, hk⟩ hx
    rw [hOK] at hok
    have hlt : w.heap.size + 1 < W.heap.size := (Array.getElem?_eq_some_iff.1 hl).1
    have hy := run_yield (P := P) (args := encs x) hl (by rw [hrec]; exact hps x)
    rw [hrec] at hy
    refine ⟨fn, _, assign, body, hy, roundIn_of_wpIn hfn (hassign _ x W _ ⟨_, run_beginRound hl (by rw [hrec]), ?_⟩)⟩
    obtain ⟨V, hV⟩ : ∃ V, V = W.putObj (w.heap.size + 1) (.loop { rec .ready none with state := .busy }) := ⟨_, rfl⟩
    rw [← hV]
    have sV : Step (fun k => k = w.heap.size + 1) W V := by rw [hV]; exact Step.putObj _ _ _
    have zV : V.heap.size = W.heap.size := by rw [hV]; simp
    have hl2 : V.heap[w.heap.size + 1]? = some (.loop { rec .ready none with state := .busy }) := by rw [hV]; exact World.putObj_heap_same hlt
    have hk2 : V.heap[w.heap.size]? = some (.deferred (some [])) := sV.same hk (by omega)
    have hiV : I pre O V := hI _ _ _ _ hi (sV.mono (fun k e => by subst e; exact ⟨by omega, fun hk => (hok _ hk).2.2.2.1 rfl⟩))
    have hxV : X pre x V := by rw [hV]; exact hX _ _ _ _ _ _ hx hl rfl
    refine wpIn_mono (hbody _ pre x O V hiV hxV (fun k hk => ⟨(hok k hk).1, by rw [zV]; exact (hok k hk).2.2.2.2⟩) (by omega)) ?_
    -- the round's end
    have fin : ∀ (jump : Option Code) (V3 : World), Step O V V3 → ∃ V4,
        (Instr.endRound (w.heap.size + 1) jump).run P V3 = .ok (.bool jump.isNone) V4 ∧ Step (fun k => k = w.heap.size + 1) V3 V4 ∧
        V4.heap[w.heap.size + 1]? = some (.loop (rec (if jump.isNone then .ready else .done) jump)) ∧ V4.heap[w.heap.size]? = some (.deferred (some [])) ∧ V4.heap.size = V3.heap.size := by
      intro jump V3 hs3
      have hl3 := hs3.same hl2 (fun e => (hok _ e).2.2.2.1 rfl)
      have hk3 := hs3.same hk2 (fun e => (hok _ e).2.2.1 rfl)
      have := run_endRound (P := P) jump hl3
      rw [hrec] at this ⊢
      rw [hrec] at hl3
      exact ⟨_, this, Step.putObj _ _ _, World.putObj_heap_same (Array.getElem?_eq_some_iff.1 hl3).1, (Step.putObj _ _ _).same hk3 (by omega), by simp⟩
    have okx : ∀ {O' : Nat → Prop} {V3 V4 : World}, (∀ k, O' k → O k ∨ V.heap.size ≤ k) → (∀ k, O' k → k < V3.heap.size) → V4.heap.size = V3.heap.size → OK O' V4 ∧ ∀ k, (k = w.heap.size + 1) → base ≤ k ∧ ¬ O' k := by
      intro O' V3 V4 hgrow hlt3 hz
      rw [hOK]
      have hne : ∀ k, O' k → base ≤ k ∧ ¬ T0 k ∧ k ≠ w.heap.size ∧ k ≠ w.heap.size + 1 := by
        intro k hk
        rcases hgrow k hk with h | h
        · obtain ⟨a1, a2, a3, a4, a5⟩ := hok k h
          exact ⟨a1, a2, a3, a4⟩
        · rw [zV] at h
          exact ⟨by omega, fun e => by have := (hT0 k e).2; omega, by omega, by omega⟩
      exact ⟨fun k hk => ⟨(hne k hk).1, (hne k hk).2.1, (hne k hk).2.2.1, (hne k hk).2.2.2, by rw [hz]; exact hlt3 k hk⟩, fun k e => by subst e; exact ⟨by omega, fun hk => (hne _ hk).2.2.2 rfl⟩⟩
    rintro e a3 V3 hp
    cases e with
    | normal =>
      obtain ⟨O', hi3, hgrow, hlt3, hs3⟩ := hp
      obtain ⟨V4, hr, s4, hl4, hk4, z4⟩ := fin none V3 hs3
      obtain ⟨hok4, hno⟩ := okx hgrow hlt3 z4
      refine ⟨_, _, hr, .inl ⟨rfl, O', ⟨hI _ _ _ _ hi3 (s4.mono hno), hok4, hl4, hk4⟩, ?_, fun k hk => by rw [← zV]; exact hgrow k hk⟩⟩
      refine ⟨⟨Nat.le_trans sV.size (Nat.le_trans hs3.size s4.size), fun i hi ho => ?_⟩, (sV.2.trans hs3.2).trans s4.2⟩
      by_cases e : i = w.heap.size + 1
      · subst e; rw [hl4, hl]; rfl
      · rw [s4.1.2 i (by have := hs3.size; omega) e, hs3.1.2 i (by omega) ho, sV.1.2 i hi e]
    | ret =>
      obtain ⟨O', hi3, hgrow, hlt3, hs3⟩ := hp
      obtain ⟨V4, hr, s4, hl4, hk4, z4⟩ := fin (some .ret) V3 hs3
      obtain ⟨hok4, hno⟩ := okx hgrow hlt3 z4
      exact ⟨_, _, hr, .inr ⟨rfl, O', .ret, hIx _ _ _ _ _ hi3 (s4.mono hno), hok4, hl4, hk4⟩⟩
    | exit id =>
      obtain ⟨O', hi3, hgrow, hlt3, hs3⟩ := hp
      obtain ⟨V4, hr, s4, hl4, hk4, z4⟩ := fin (some (.exit id)) V3 hs3
      obtain ⟨hok4, hno⟩ := okx hgrow hlt3 z4
      exact ⟨_, _, hr, .inr ⟨rfl, O', .exit id, hIx _ _ _ _ _ hi3 (s4.mono hno), hok4, hl4, hk4⟩⟩
    | goto t =>
      obtain ⟨O', hi3, hgrow, hlt3, hs3⟩ := hp
      obtain ⟨V4, hr, s4, hl4, hk4, z4⟩ := fin (some (.goto t)) V3 hs3
      obtain ⟨hok4, hno⟩ := okx hgrow hlt3 z4
      exact ⟨_, _, hr, .inr ⟨rfl, O', .goto t, hIx _ _ _ _ _ hi3 (s4.mono hno), hok4, hl4, hk4⟩⟩
    | panic ch => exact hp.elim
    | outgrown => exact hp.elim
  · refine ⟨hI1, ?_, hL1, hK1⟩
    rw [hOK]
    intro k hk
    obtain ⟨a1, a2, a3⟩ := hO0 k hk
    exact ⟨a1, a2, by omega, by omega, by omega⟩
  · -- behind the iterator
    have nOK : ∀ {O' : Nat → Prop} {A : World}, OK O' A → (∀ k, (k = w.heap.size + 1) → base ≤ k ∧ ¬ O' k) ∧ ¬ O' w.heap.size := by
      intro O' A h
      rw [hOK] at h
      exact ⟨fun k e => by subst e; exact ⟨by omega, fun hk => (h _ hk).2.2.2.1 rfl⟩, fun hk => (h _ hk).2.2.1 rfl⟩
    rintro e W2 ⟨⟨v, rfl⟩, (⟨xs, O', hS, hi, hok, hl, hk⟩ | ⟨pre, O', hSp, c, hi, hok, hl, hk⟩)⟩
    · have he := run_endLoop (P := P) hl (by rw [hrec]; simp)
      rw [hrec] at he
      obtain ⟨n1, n2⟩ := nOK hok
      exact ⟨none, _, he, hdone _ xs O' _ (Nat.le_refl _) hS (hI _ _ _ _ hi ((Step.putObj _ _ _).mono n1)) n2 ((Step.putObj _ _ _).same hk (by omega))⟩
    · have he := run_endLoop (P := P) hl (by rw [hrec]; simp)
      rw [hrec] at he
      obtain ⟨n1, n2⟩ := nOK hok
      exact ⟨some c, _, he, hstop _ c pre O' _ (Nat.le_refl _) hSp (hIx _ _ _ _ _ hi ((Step.putObj _ _ _).mono n1)) n2 ((Step.putObj _ _ _).same hk (by omega))⟩
end Go.Proofs.Ytoolionhheiihaa.Rng

/- A step of a region that draws its order, in a round of a range over a function: out of the plain law of the operation. And append, there. No program in it. -/
set_option linter.unusedVariables false
set_option linter.unusedSimpArgs false
namespace Go.Proofs.Ytoolionhheiihaa.Rng
open Go.RowKit Go.Proofs.YtoolionhheiihaaW.PrintWords
theorem wpIn_round {P : Program} {l n : Nat} {o : Oper} {a : Act} {w : World} {K : Act → World → Prop} {Q : Exit → Act → World → Prop} (hd : ∀ c, o.op ≠ .defer c) (h : o.wpIn Fence.wide n P a w K Q) : o.wpIn (Fence.wide.inRound l) n P a w K Q := by
  refine ⟨fun f _ => trivial, ?_⟩
  have h2 := h.2
  rw [Oper.semAt_eq _ _ _ hd] at h2 ⊢
  exact h2
theorem wpOpIn_round {P : Program} {l n i : Nat} {ops : Array Oper} {a : Act} {w : World} {K K' : Act → World → Prop} {Q : Exit → Act → World → Prop} (hd : ∀ o ∈ ops, ∀ c, o.op ≠ .defer c) (hK : ∀ a w, K a w → K' a w)
    (h : wpOpIn Fence.wide n P ops Q i K a w) : wpOpIn (Fence.wide.inRound l) n P ops Q i K' a w := by
  unfold wpOpIn at h ⊢
  cases ho : ops[i]? with
  | none => rw [ho] at h; exact hK _ _ h
  | some o =>
    rw [ho] at h
    simp only at h ⊢
    have hm : o ∈ ops := by
      obtain ⟨hi, rfl⟩ := Array.getElem?_eq_some_iff.1 ho
      exact Array.getElem_mem hi
    by_cases hw : Region.wanted o (yielded ops a.tmps) = true
    · rw [if_pos hw] at h ⊢
      exact Oper.wpIn_mono hK (wpIn_round (hd o hm) h)
    · rw [if_neg hw] at h ⊢
      exact ⟨fun f _ => trivial, hK _ _ h.2⟩
theorem wpAnyIn_round {P : Program} {l n : Nat} {md : Region.Mode} {ops : Array Oper} {Q : Exit → Act → World → Prop} (hd : ∀ o ∈ ops, ∀ c, o.op ≠ .defer c) :
    ∀ (fuel : Nat) (listed : Array Bool) (a : Act) (w : World), wpAnyIn Fence.wide n P md ops Q fuel listed a w → wpAnyIn (Fence.wide.inRound l) n P md ops Q fuel listed a w
  | 0, _, _, _, h => h
  | fuel + 1, _, _, _, h => ⟨h.1, fun i hi => wpOpIn_round hd (fun a w h' => wpAnyIn_round hd fuel _ a w h') (h.2 i hi)⟩
/-- A region that draws its order, in a round: as outside of one, if no call in it is deferred. -/
theorem region_round {P : Program} {l n id : Nat} {ops : Array Oper} {Q : Exit → Act → World → Prop} {a : Act} {w : World} (hd : ops.all (fun o => match o.op with | .defer _ => false | _ => true) = true) (hm : P.follows .mixedOrders = true)
    (h : wpAnyIn Fence.wide n P .any ops Q ops.size (Array.replicate ops.size false) a w.drew) : (Code.region id ops true).wpIn (Fence.wide.inRound l) n P Q a w := by
  refine wpIn_region_any hm (wpAnyIn_round ?_ _ _ _ _ h)
  intro o ho c hc
  have := Array.all_eq_true_iff_forall_mem.1 hd o ho
  rw [hc] at this
  simp at this
/-- An operation's plain law serves behind the fence that lets everything through. -/
theorem wideIn_of_wp {P : Program} {n : Nat} {o : Oper} {a : Act} {w : World} {K : Act → World → Prop} {Q : Exit → Act → World → Prop} (h : o.wp P a w K Q) : o.wpIn Fence.wide n P a w K Q := by
  refine ⟨fun f _ => trivial, ?_⟩
  show o.uponIn Fence.wide n P a K Q ((execOp a.eval o).run P w)
  unfold Oper.wp at h
  generalize (execOp a.eval o).run P w = r at *
  have hn : Fence.wide.depth.isSome = true → 1 ≤ n := fun h => absurd h (by simp [Fence.wide])
  cases r with
  | ok x w' =>
    cases x with
    | value v => exact h
    | skip => exact h
    | defer d => exact h
    | enter f args => exact ⟨hn, callsIn_wide.2 h⟩
    | row row args => exact ⟨hn, fun c cs _ => by obtain ⟨v, w2, hr, hst⟩ := h c cs; exact ⟨v, w2, hr, stepsIn_wide.2 hst⟩⟩
    | _ => exact h.elim
  | halt x w' =>
    cases x with
    | panic v => exact h
    | _ => exact h.elim
/-- append, as one step of a region that draws its order. -/
theorem stepIn_append {P : Program} {m0 : Nat} {w : World} {ops : Array Oper} {o : Oper} {a : Act} {K : Act → World → Prop} {Q : Exit → Act → World → Prop} {E : Prop} (hgd : o.guard = none) (s x : Operand) (t : TypeId)
    (ho : o.op = .call { callee := .builtin .append, args := #[s, x], argTypes := #[t, t] })
    (base : Nat) (e : TypeId) (z : Value) (bytes : Nat) (ht : P.underlying t = some (.slice e)) (hinfo : (P.info? e).map (fun i => (i.zero, i.size, i.bytes)) = some (some z, 1, bytes)) (hzs : z.cells.size = 1)
    (v : Value) (n : Nat) (xs : List Value) (hs : a.eval s = v) (hown : w.ownsRow base e 1 v n xs)
    (g1 : Nat) (y : Value) (hx : a.eval x = .slice (some ⟨g1, 0, none⟩) 1 1) (hy : w.heap[g1]? = some (.cells #[y] e (0, 0))) (h1 : y.oneCell' = true)
    (h63 : n + 1 ≤ maxLen) (hbytes : (n + 1) * bytes ≤ 140737488355328) (hbase : base ≤ w.heap.size)
    (h : ∀ g cap w', w'.ownsRow base e 1 (.slice (some ⟨g, 0, none⟩) (n + 1) cap) (n + 1) (xs ++ [y]) → w.grownBy w' v.ownBlock → (v.ownBlock = some g ∨ g = w.heap.size) → g < w'.heap.size → K (a.put o.dst (.slice (some ⟨g, 0, none⟩) (n + 1) cap)) w') :
    if Region.wanted o (yielded ops a.tmps) = true then Oper.wpIn Fence.wide m0 P o a w K Q else E := by
  have hw : Region.wanted o (yielded ops a.tmps) = true := by simp [Region.wanted, hgd]
  rw [if_pos hw]
  obtain ⟨i0, hi, hzz⟩ := Option.map_eq_some_iff.1 hinfo
  simp only [Prod.mk.injEq] at hzz
  obtain ⟨hz0, hz1, hz2⟩ := hzz
  refine wideIn_of_wp ?_
  refine wp_append_lies w s x t ho base e i0 z 1 bytes ht hi hz0 hz1 hz2 hzs (by omega) v n xs hs hown ⟨g1, 0, none⟩ 1 1 [y] hx rfl ?_ (by simpa using h1) (by omega) h63 hbytes hbase w.heap.size rfl h
  exact World.news_of_block hy
end Go.Proofs.Ytoolionhheiihaa.Rng

/- The closures of digest.taker, and digest.put, as the machine runs them: what each writes. -/
set_option linter.unusedVariables false
set_option linter.unusedSimpArgs false
namespace Go.Proofs.Ytoolionhheiihaa.Dg
open Go.RowKit Go.Proofs.YtoolionhheiihaaW.PrintWords
/-- One step of the first number, and of the second one. -/
def sx (x c : Int) : Int := (x * 1000003 + c + 1) % 2147483647
def sy (y c : Int) : Int := (y * 69069 + c + 1) % 2147483629
def fx (x : Int) (l : List UInt8) : Int := l.foldl (fun x c => sx x c.toNat) x
def fy (x : Int) (l : List UInt8) : Int := l.foldl (fun x c => sy x c.toNat) x
theorem fx_range (l : List UInt8) : ∀ x : Int, 0 ≤ x → x < 2147483647 → 0 ≤ fx x l ∧ fx x l < 2147483647 := by
  induction l with
  | nil => intro x h0 h1; exact ⟨h0, h1⟩
  | cons c l ih => intro x h0 h1; exact ih _ (by simp only [sx]; omega) (by simp only [sx]; omega)
theorem fy_range (l : List UInt8) : ∀ x : Int, 0 ≤ x → x < 2147483629 → 0 ≤ fy x l ∧ fy x l < 2147483629 := by
  induction l with
  | nil => intro x h0 h1; exact ⟨h0, h1⟩
  | cons c l ih => intro x h0 h1; exact ih _ (by simp only [sy]; omega) (by simp only [sy]; omega)
theorem take_snoc (s : ByteArray) (k : Nat) (h : k < s.size) : s.data.toList.take (k + 1) = s.data.toList.take k ++ [s[k]] := by
  rw [List.take_succ_eq_append_getElem (by simpa using h)]; rfl
theorem fx_snoc (s : ByteArray) (k : Nat) (h : k < s.size) (x : Int) : fx x (s.data.toList.take (k + 1)) = (fx x (s.data.toList.take k) * 1000003 + (s[k].toNat : Int) + 1) % 2147483647 := by
  rw [take_snoc s k h, fx, List.foldl_append]; rfl
theorem fy_snoc (s : ByteArray) (k : Nat) (h : k < s.size) (x : Int) : fy x (s.data.toList.take (k + 1)) = (fy x (s.data.toList.take k) * 69069 + (s[k].toNat : Int) + 1) % 2147483629 := by
  rw [take_snoc s k h, fy, List.foldl_append]; rfl
theorem stepx (x : Int) (c : UInt8) (h0 : 0 ≤ x) (h1 : x < 2147483647) : (wrap64 (wrap64 (x * 1000003 + wrap64 c.toNat) + 1)).tmod 2147483647 = (x * 1000003 + c.toNat + 1) % 2147483647 := by
  have hc := c.toNat_lt
  rw [show wrap64 (c.toNat : Int) = c.toNat from by unfold wrap64; omega, show wrap64 (x * 1000003 + c.toNat) = x * 1000003 + c.toNat from by unfold wrap64; omega, show wrap64 (x * 1000003 + (c.toNat : Int) + 1) = x * 1000003 + (c.toNat : Int) + 1 from by unfold wrap64; omega]
  rw [Int.tmod_eq_emod_of_nonneg (by omega)]
theorem stepy (x : Int) (c : UInt8) (h0 : 0 ≤ x) (h1 : x < 2147483629) : (wrap64 (wrap64 (x * 69069 + wrap64 c.toNat) + 1)).tmod 2147483629 = (x * 69069 + c.toNat + 1) % 2147483629 := by
  have hc := c.toNat_lt
  rw [show wrap64 (c.toNat : Int) = c.toNat from by unfold wrap64; omega, show wrap64 (x * 69069 + c.toNat) = x * 69069 + c.toNat from by unfold wrap64; omega, show wrap64 (x * 69069 + (c.toNat : Int) + 1) = x * 69069 + (c.toNat : Int) + 1 from by unfold wrap64; omega]
  rw [Int.tmod_eq_emod_of_nonneg (by omega)]
/-- What a store into one of two blocks of one cell leaves. -/
theorem other_cell {w : World} {b : Nat} {o : Obj} (h : w.heap[b]? = some o) {p : Addr} (hp : b ≠ p.block) (u : Value) : (w.setCell p u).heap[b]? = some o := (Below.heap_setCell w p u b hp).trans h
set_option maxHeartbeats 400000 in
theorem take_any (s : ByteArray) (hs : s.size ≤ 9223372036854775807) (X Y : Nat) (hXY : X ≠ Y) (x y : Int) (hx0 : 0 ≤ x) (hx : x < 2147483647) (hy0 : 0 ≤ y) (hy : y < 2147483629) (w : World)
    (cX : w.heap[X]? = some (.cells #[.int .i64 x] 3 (0, 0))) (cY : w.heap[Y]? = some (.cells #[.int .i64 y] 3 (0, 0))) :
    Calls Try.prog 83 #[.string s, .pointer (some ⟨X, 0, none⟩), .pointer (some ⟨Y, 0, none⟩)] w fun e w' => e = .returned (.tuple #[]) ∧
      w'.heap[X]? = some (.cells #[.int .i64 (fx x s.data.toList)] 3 (0, 0)) ∧ w'.heap[Y]? = some (.cells #[.int .i64 (fy y s.data.toList)] 3 (0, 0)) ∧ Kept w w' (fun k => k = X ∨ k = Y) ∧ Below (min X Y) w w' := by
  go_enter Try.func83, Try.ntmps83
  go_wp2
  have HX := Lib.hid cX
  have HY := Lib.hid cY
  clear cX cY
  go_loopw [7] (fun i wr => ∃ k : Nat, k ≤ s.size ∧ i = .int .i64 k ∧ wr.heap[X]? = some (.cells #[.int .i64 (fx x (s.data.toList.take k))] 3 (0, 0)) ∧ wr.heap[Y]? = some (.cells #[.int .i64 (fy y (s.data.toList.take k))] 3 (0, 0)) ∧ Kept w wr (fun k => k = X ∨ k = Y) ∧ Below (min X Y) w wr) (fun i _ => s.size - (intOf i).toNat)
  case atStart => exact ⟨0, Nat.zero_le _, rfl, HX.out, HY.out, Kept.refl _ _, Below.refl _ _⟩
  case round =>
    obtain ⟨k, hk, rfl, cX, cY, hK, hB⟩ := hrel
    by_cases hlt : k < s.size
    · obtain ⟨r1, r2⟩ := fx_range (s.data.toList.take k) x hx0 hx
      obtain ⟨r3, r4⟩ := fy_range (s.data.toList.take k) y hy0 hy
      have EX := Lib.hid (fx_snoc s k hlt x)
      have EY := Lib.hid (fy_snoc s k hlt y)
      generalize fx x (s.data.toList.take k) = xk at *
      generalize fy y (s.data.toList.take k) = yk at *
      have hxc : wr.cell? ⟨X, 0, none⟩ = some (.int .i64 xk) := cell_of_one cX
      have hyc : wr.cell? ⟨Y, 0, none⟩ = some (.int .i64 yk) := cell_of_one cY
      have hxf : wr.frozen? ⟨X, 0, none⟩ = false := free_of_one cX
      have hyf : wr.frozen? ⟨Y, 0, none⟩ = false := free_of_one cY
      have CX := Lib.hid cX
      have CY := Lib.hid cY
      clear cX cY
      go_wp2
      go_region
      all_goals (go_wp2; go_region)
      all_goals go_wp2
      all_goals
        go_roundw
        case rel =>
          refine ⟨k + 1, by omega, by go_num, ?_, ?_, ((hK.setCell (.inl (.inl rfl)) _).setCell (.inl (.inr rfl)) _).drew.drew, ((hB.setCell (p := ⟨X, 0, none⟩) (Nat.min_le_left _ _) _).setCell (p := ⟨Y, 0, none⟩) (Nat.min_le_right _ _) _).drew.drew⟩
          · rw [EX.out, ← stepx xk s[k] r1 r2]
            exact other_cell (one_setCell CX.out) (p := ⟨Y, 0, none⟩) hXY _
          · rw [EY.out, ← stepy yk s[k] r3 r4]
            exact one_setCell (other_cell CY.out (p := ⟨X, 0, none⟩) (Ne.symm hXY) _)
        case measure => simp [intOf]; omega
    · go_wp2
      go_end0
      obtain rfl : k = s.size := by omega
      exact ⟨rfl, by rw [List.take_of_length_le (by simp)] at cX; exact cX, by rw [List.take_of_length_le (by simp)] at cY; exact cY, hK, hB⟩
/-- One byte of a number, as put writes it. -/
def bb (n : Int) (p : Int) : Int := (n / p) % 256
theorem blk_cell {w : World} {D : Nat} {cs : Array Value} {T : TypeId} (h : w.heap[D]? = some (.cells cs T (0, 0))) (j : Nat) (hj : j < cs.size) : w.cell? ⟨D, j, none⟩ = some cs[j] ∧ w.frozen? ⟨D, j, none⟩ = false := by
  constructor
  · simp [World.cell?, h, hj]
  · simp [World.frozen?, h]
set_option maxHeartbeats 400000 in
theorem put_any (D o c : Nat) (_hc : 4 ≤ c) (n : Int) (w : World) (cs : Array Value) (T : TypeId)
    (hD : w.heap[D]? = some (.cells cs T (0, 0))) (ho : o + 4 ≤ cs.size) :
    Calls Try.prog 81 #[.slice (some ⟨D, o, none⟩) 4 c, .int .i64 n] w fun e w' => e = .returned (.tuple #[]) ∧
      w' = (((w.setCell ⟨D, o, none⟩ (.int .u8 (bb n 16777216))).setCell ⟨D, o + 1, none⟩ (.int .u8 (bb n 65536))).setCell ⟨D, o + 2, none⟩ (.int .u8 (bb n 256))).setCell ⟨D, o + 3, none⟩ (.int .u8 (bb n 1)) := by
  obtain ⟨c0, f0⟩ := blk_cell hD o (by omega)
  obtain ⟨c1, f1⟩ := blk_cell hD (o + 1) (by omega)
  obtain ⟨c2, f2⟩ := blk_cell hD (o + 2) (by omega)
  obtain ⟨c3, f3⟩ := blk_cell hD (o + 3) (by omega)
  generalize cs[o] = v0 at *
  generalize cs[o + 1] = v1 at *
  generalize cs[o + 2] = v2 at *
  generalize cs[o + 3] = v3 at *
  clear hD ho
  go_enter Try.func81, Try.ntmps81
  go_wp2
  refine wp_loop_rounds 5 ?_
  rw [rounds_succ]
  go_wp2
  rw [rounds_succ]
  go_wp2
  rw [rounds_succ]
  go_wp2
  rw [rounds_succ]
  go_wp2
  rw [rounds_succ]
  go_wp2
  go_end0
  exact ⟨rfl, by simp [bb]⟩
/-- What a store into a block leaves of it. -/
theorem set_blk {w : World} {D : Nat} {cs : Array Value} {T : TypeId} (h : w.heap[D]? = some (.cells cs T (0, 0))) (j : Nat) (u : Value) : (w.setCell ⟨D, j, none⟩ u).heap[D]? = some (.cells (cs.setIfInBounds j u) T (0, 0)) := by
  have hlt := lt_of_block h
  have h' : w.heap[D] = .cells cs T (0, 0) := by simpa [Array.getElem?_eq_getElem hlt] using h
  show (w.heap.modify D _)[D]? = _
  rw [Array.getElem?_eq_getElem (by simpa using hlt), Array.getElem_modify_self, h']
  rfl
/-- Only block D may be another one. -/
def Only (D : Nat) (w w' : World) : Prop := Kept w w' (fun k => k = D) ∧ Below D w w' ∧ w'.heap.size = w.heap.size
set_option maxHeartbeats 400000 in
theorem put_blk (D o c : Nat) (hc : 4 ≤ c) (n : Int) (w : World) (cs : Array Value) (T : TypeId)
    (hD : w.heap[D]? = some (.cells cs T (0, 0))) (ho : o + 4 ≤ cs.size) :
    Calls Try.prog 81 #[.slice (some ⟨D, o, none⟩) 4 c, .int .i64 n] w fun e w' => e = .returned (.tuple #[]) ∧
      w'.heap[D]? = some (.cells ((((cs.setIfInBounds o (.int .u8 (bb n 16777216))).setIfInBounds (o + 1) (.int .u8 (bb n 65536))).setIfInBounds (o + 2) (.int .u8 (bb n 256))).setIfInBounds (o + 3) (.int .u8 (bb n 1))) T (0, 0)) ∧ Only D w w' := by
  refine (put_any D o c hc n w cs T hD ho).mono ?_
  rintro e w' ⟨rfl, rfl⟩
  have e1 := set_blk hD o (.int .u8 (bb n 16777216))
  have e2 := set_blk e1 (o + 1) (.int .u8 (bb n 65536))
  have e3 := set_blk e2 (o + 2) (.int .u8 (bb n 256))
  have e4 := set_blk e3 (o + 3) (.int .u8 (bb n 1))
  have k1 := (Kept.refl w (fun k => k = D)).setCell (p := ⟨D, o, none⟩) (.inl rfl) (.int .u8 (bb n 16777216))
  have k2 := k1.setCell (p := ⟨D, o + 1, none⟩) (.inl rfl) (.int .u8 (bb n 65536))
  have k3 := k2.setCell (p := ⟨D, o + 2, none⟩) (.inl rfl) (.int .u8 (bb n 256))
  have k4 := k3.setCell (p := ⟨D, o + 3, none⟩) (.inl rfl) (.int .u8 (bb n 1))
  have l1 := (Below.refl D w).setCell (p := ⟨D, o, none⟩) (Nat.le_refl _) (.int .u8 (bb n 16777216))
  have l2 := l1.setCell (p := ⟨D, o + 1, none⟩) (Nat.le_refl _) (.int .u8 (bb n 65536))
  have l3 := l2.setCell (p := ⟨D, o + 2, none⟩) (Nat.le_refl _) (.int .u8 (bb n 256))
  have l4 := l3.setCell (p := ⟨D, o + 3, none⟩) (Nat.le_refl _) (.int .u8 (bb n 1))
  exact ⟨rfl, e4, k4, l4, by simp [World.setCell]⟩
theorem new2 (w : World) (o1 o2 : Obj) : ((w.alloc o1).alloc o2).heap[w.heap.size + 1]? = some o2 := by
  have h := heap_alloc_new (w.alloc o1) o2
  rwa [World.size_alloc] at h
theorem new1 (w : World) (o1 o2 : Obj) : ((w.alloc o1).alloc o2).heap[w.heap.size]? = some o1 := by
  rw [Below.heap_alloc _ _ _ (by simp)]
  exact heap_alloc_new _ _
end Go.Proofs.Ytoolionhheiihaa.Dg

/- digest.taker's second closure, taker itself, and digest.of: the digest of some strings, one behind the other. -/
set_option linter.unusedVariables false
set_option linter.unusedSimpArgs false
namespace Go.Proofs.Ytoolionhheiihaa.Dg
open Go.RowKit Go.Proofs.YtoolionhheiihaaW.PrintWords
/-- A digest as an array: the bytes of two numbers. -/
def sumV (x y : Int) : Value := .agg #[.int .u8 (bb x 16777216), .int .u8 (bb x 65536), .int .u8 (bb x 256), .int .u8 (bb x 1), .int .u8 (bb y 16777216), .int .u8 (bb y 65536), .int .u8 (bb y 256), .int .u8 (bb y 1)]
theorem old_two {w w1 : World} {o1 o2 o : Obj} {b : Nat} (hk : Kept ((w.alloc o1).alloc o2) w1 (fun k => k = w.heap.size + 1)) (h : w.heap[b]? = some o) : w1.heap[b]? = some o := by
  have hl := lt_of_block h
  refine (hk.2 b (by simp; omega) (by omega)).trans ?_
  rw [Below.heap_alloc _ _ _ (by simp; omega), Below.heap_alloc _ _ _ hl]
  exact h
theorem mid_two {w w1 : World} {o1 o2 : Obj} (hk : Kept ((w.alloc o1).alloc o2) w1 (fun k => k = w.heap.size + 1)) : w1.heap[w.heap.size]? = some o1 :=
  (hk.2 w.heap.size (by simp; omega) (by omega)).trans (new1 w o1 o2)
theorem cells8 {w : World} {b : Nat} {v0 v1 v2 v3 v4 v5 v6 v7 : Value} {T : TypeId} (h : w.heap[b]? = some (.cells #[v0, v1, v2, v3, v4, v5, v6, v7] T (0, 0))) :
    w.cell? ⟨b, 0, none⟩ = some v0 ∧ w.cell? ⟨b, 1, none⟩ = some v1 ∧ w.cell? ⟨b, 2, none⟩ = some v2 ∧ w.cell? ⟨b, 3, none⟩ = some v3 ∧
    w.cell? ⟨b, 4, none⟩ = some v4 ∧ w.cell? ⟨b, 5, none⟩ = some v5 ∧ w.cell? ⟨b, 6, none⟩ = some v6 ∧ w.cell? ⟨b, 7, none⟩ = some v7 := by
  simp [World.cell?, h]
theorem free8 {w : World} {b : Nat} {v0 v1 v2 v3 v4 v5 v6 v7 : Value} {T : TypeId} (h : w.heap[b]? = some (.cells #[v0, v1, v2, v3, v4, v5, v6, v7] T (0, 0))) :
    w.frozen? ⟨b, 0, none⟩ = false ∧ w.frozen? ⟨b, 1, none⟩ = false ∧ w.frozen? ⟨b, 2, none⟩ = false ∧ w.frozen? ⟨b, 3, none⟩ = false ∧
    w.frozen? ⟨b, 4, none⟩ = false ∧ w.frozen? ⟨b, 5, none⟩ = false ∧ w.frozen? ⟨b, 6, none⟩ = false ∧ w.frozen? ⟨b, 7, none⟩ = false := by
  simp [World.frozen?, h]
theorem same_if (w : World) (a : Addr) (v : Value) (h : (w.cell? a).isSome = true) : (w.setCell a v).cell? a = some v := by
  obtain ⟨u, hu⟩ := Option.isSome_iff_exists.1 h
  exact World.cell?_setCell_same w a v hu
/-- Eight zeros. -/
def Z8 : Obj := .cells #[.int .u8 0, .int .u8 0, .int .u8 0, .int .u8 0, .int .u8 0, .int .u8 0, .int .u8 0, .int .u8 0] 82
set_option maxHeartbeats 400000 in
theorem done_any (X Y : Nat) (x y : Int) (w : World)
    (cX : w.heap[X]? = some (.cells #[.int .i64 x] 3 (0, 0))) (cY : w.heap[Y]? = some (.cells #[.int .i64 y] 3 (0, 0))) :
    Calls Try.prog 84 #[.pointer (some ⟨X, 0, none⟩), .pointer (some ⟨Y, 0, none⟩)] w fun e w' => e = .returned (sumV x y) ∧ Below w.heap.size w w' := by
  have hxc : w.cell? ⟨X, 0, none⟩ = some (.int .i64 x) := cell_of_one cX
  have ltX := lt_of_block cX
  have CY := Lib.hid cY
  clear cX cY
  go_enter Try.func84, Try.ntmps84
  go_wp2
  go_region_with (go_at_call 81; refine (put_blk (w.heap.size + 1) 0 8 (by omega) x _ #[.int .u8 0, .int .u8 0, .int .u8 0, .int .u8 0, .int .u8 0, .int .u8 0, .int .u8 0, .int .u8 0] 82 ?_ ?_).mono ?_; exact new2 _ _ _; simp; rintro e w1 ⟨rfl, h1, k1, b1, z1⟩; simp at h1 z1)
  all_goals
    have cY1 := old_two k1 CY.out
    have cM1 := mid_two k1
    have hyc : w1.cell? ⟨Y, 0, none⟩ = some (.int .i64 y) := cell_of_one cY1
    have B1 := Lib.hid (show Below w.heap.size w w1 by
      refine Below.trans ?_ (b1.mono (Nat.le_succ _))
      exact (((Below.refl _ _).alloc (Nat.le_refl _) _).alloc (by simp) _).drew)
    have K1 := Lib.hid h1
    have M1 := Lib.hid cM1
    clear cY1 cM1 h1 k1 b1 hxc
    go_wp2
    go_region_with (go_at_call 81; refine (put_blk (w.heap.size + 1) 4 4 (by omega) y _ #[.int .u8 (bb x 16777216), .int .u8 (bb x 65536), .int .u8 (bb x 256), .int .u8 (bb x 1), .int .u8 0, .int .u8 0, .int .u8 0, .int .u8 0] 82 ?_ ?_).mono ?_; exact K1.out; simp; rintro e w2 ⟨rfl, h2, k2, b2, z2⟩; simp at h2)
  all_goals
    have cM2 := (k2.2 w.heap.size (by have := lt_of_block M1.out; simpa using this) (by omega)).trans M1.out
    have B2 := Lib.hid (B1.out.drew.trans (b2.mono (Nat.le_succ _)))
    clear k2 b2 z1 z2
    obtain ⟨d0, d1, d2, d3, d4, d5, d6, d7⟩ := cells8 h2
    obtain ⟨m0, m1, m2, m3, m4, m5, m6, m7⟩ := cells8 cM2
    obtain ⟨q0, q1, q2, q3, q4, q5, q6, q7⟩ := free8 cM2
    clear h2 cM2
    go_wp2
    refine bodyPost_ret (v := sumV x y) (by simp [results, Try.results84, go_sem, sumV, same_if, m0, m1, m2, m3, m4, m5, m6, m7]) rfl ⟨rfl, ?_⟩
    exact (((((((B2.out.setCell (p := ⟨_, 0, none⟩) (Nat.le_refl _) _).setCell (p := ⟨_, 1, none⟩) (Nat.le_refl _) _).setCell (p := ⟨_, 2, none⟩) (Nat.le_refl _) _).setCell (p := ⟨_, 3, none⟩) (Nat.le_refl _) _).setCell (p := ⟨_, 4, none⟩) (Nat.le_refl _) _).setCell (p := ⟨_, 5, none⟩) (Nat.le_refl _) _).setCell (p := ⟨_, 6, none⟩) (Nat.le_refl _) _).setCell (p := ⟨_, 7, none⟩) (Nat.le_refl _) _
end Go.Proofs.Ytoolionhheiihaa.Dg

/- digest.taker itself, and digest.of: the digest of some strings, one behind the other. -/
set_option linter.unusedVariables false
set_option linter.unusedSimpArgs false
namespace Go.Proofs.Ytoolionhheiihaa.Dg
open Go.RowKit Go.Proofs.YtoolionhheiihaaW.PrintWords
set_option maxHeartbeats 400000 in
theorem taker_any (w : World) :
    Calls Try.prog 82 #[] w fun e w' => e = .returned (.tuple #[.func (.func 83) #[] #[.pointer (some ⟨w.heap.size, 0, none⟩), .pointer (some ⟨w.heap.size + 1, 0, none⟩)], .func (.func 84) #[] #[.pointer (some ⟨w.heap.size, 0, none⟩), .pointer (some ⟨w.heap.size + 1, 0, none⟩)]]) ∧
      w' = (w.alloc (.cells #[.int .i64 7] 3)).alloc (.cells #[.int .i64 11] 3) := by
  go_enter Try.func82, Try.ntmps82
  go_wp2
  go_ret2
  exact ⟨rfl, rfl⟩
/-- What the strings come to, one behind the other. -/
def fxs (x : Int) (l : List ByteArray) : Int := l.foldl (fun x s => fx x s.data.toList) x
def fys (x : Int) (l : List ByteArray) : Int := l.foldl (fun x s => fy x s.data.toList) x
theorem fxs_range (l : List ByteArray) : ∀ x : Int, 0 ≤ x → x < 2147483647 → 0 ≤ fxs x l ∧ fxs x l < 2147483647 := by
  induction l with
  | nil => intro x h0 h1; exact ⟨h0, h1⟩
  | cons c l ih => intro x h0 h1; obtain ⟨a, b⟩ := fx_range c.data.toList x h0 h1; exact ih _ a b
theorem fys_range (l : List ByteArray) : ∀ x : Int, 0 ≤ x → x < 2147483629 → 0 ≤ fys x l ∧ fys x l < 2147483629 := by
  induction l with
  | nil => intro x h0 h1; exact ⟨h0, h1⟩
  | cons c l ih => intro x h0 h1; obtain ⟨a, b⟩ := fy_range c.data.toList x h0 h1; exact ih _ a b
theorem fxs_snoc (l : List ByteArray) (k : Nat) (s : ByteArray) (h : l[k]? = some s) (x : Int) : fxs x (l.take (k + 1)) = fx (fxs x (l.take k)) s.data.toList := by
  rw [List.take_add_one, h]; simp [fxs]
theorem fys_snoc (l : List ByteArray) (k : Nat) (s : ByteArray) (h : l[k]? = some s) (x : Int) : fys x (l.take (k + 1)) = fy (fys x (l.take k)) s.data.toList := by
  rw [List.take_add_one, h]; simp [fys]
theorem three_new (w : World) (o1 o2 o3 : Obj) : (((w.alloc o1).alloc o2).alloc o3).heap[w.heap.size]? = some o1 ∧ (((w.alloc o1).alloc o2).alloc o3).heap[w.heap.size + 1]? = some o2 ∧ (((w.alloc o1).alloc o2).alloc o3).heap[w.heap.size + 1 + 1]? = some o3 := by
  refine ⟨?_, ?_, ?_⟩
  · rw [Below.heap_alloc _ _ _ (by simp; omega)]; exact new1 w o1 o2
  · rw [Below.heap_alloc _ _ _ (by simp)]; exact new2 w o1 o2
  · have h := new2 (w.alloc o1) o2 o3
    rwa [World.size_alloc] at h
def Take3 (w : World) (l : List ByteArray) (k : Nat) (wr : World) : Prop :=
  wr.heap[w.heap.size]? = some Z8 ∧ wr.heap[w.heap.size + 1]? = some (.cells #[.int .i64 (fxs 7 (l.take k))] 3 (0, 0)) ∧ wr.heap[w.heap.size + 1 + 1]? = some (.cells #[.int .i64 (fys 11 (l.take k))] 3 (0, 0)) ∧ Below w.heap.size w wr
set_option maxHeartbeats 400000 in
theorem of_any (A : Option Addr) (c : Nat) (l : List ByteArray) (w : World) (hr : Kd.C Kd.string w A l.length l) (hs : ∀ s ∈ l, s.size ≤ 9223372036854775807) :
    Calls Try.prog 74 #[.slice A l.length c] w fun e w' => e = .returned (sumV (fxs 7 l) (fys 11 l)) ∧ Below w.heap.size w w' := by
  have hl : l.length ≤ 9223372036854775807 := hr.2.1
  go_enter Try.func74, Try.ntmps74
  go_wp2_with (go_at_call 82; refine (taker_any _).mono ?_; rintro e w1 ⟨rfl, rfl⟩)
  go_loopw [13] (fun i wr => ∃ k : Nat, k ≤ l.length ∧ i = .int .i64 k ∧ Take3 w l k wr) (fun i _ => l.length - (intOf i).toNat)
  case atStart =>
    refine ⟨0, Nat.zero_le _, rfl, ?_⟩
    obtain ⟨n1, n2, n3⟩ := three_new w Z8 (.cells #[.int .i64 7] 3) (.cells #[.int .i64 11] 3)
    exact ⟨n1, n2, n3, (((Below.refl _ _).alloc (Nat.le_refl _) _).alloc (by simp) _).alloc (by simp; omega) _⟩
  case round =>
    obtain ⟨k, hk, rfl, hZ, hX, hY, hB⟩ := hrel
    by_cases hlt : k < l.length
    · obtain ⟨ad, rfl, hcell⟩ := Kd.at_string (Kd.C_below hr hB) (k : Int) (by omega) (by omega)
      have hget : l[k]? = some (rdOf ByteArray.empty l (k : Int)) := by simp [rdOf, List.getD_eq_getElem?_getD, List.getElem?_eq_getElem hlt]
      have hsz := hs _ (List.mem_of_getElem? hget)
      have EX := Lib.hid (fxs_snoc l k _ hget 7)
      have EY := Lib.hid (fys_snoc l k _ hget 11)
      obtain ⟨r1, r2⟩ := fxs_range (l.take k) 7 (by omega) (by omega)
      obtain ⟨r3, r4⟩ := fys_range (l.take k) 11 (by omega) (by omega)
      generalize rdOf ByteArray.empty l (k : Int) = s at *
      generalize fxs 7 (l.take k) = x at *
      generalize fys 11 (l.take k) = y at *
      rw [Int.toNat_natCast] at hcell
      have HX := Lib.hid hX
      have HY := Lib.hid hY
      have HZ := Lib.hid hZ
      have HR := Lib.hid hr
      clear hX hY hZ hr hget hs
      go_wp2_with (go_at_call 83; refine (take_any s hsz (w.heap.size + 1) (w.heap.size + 1 + 1) (by omega) x y r1 r2 r3 r4 _ HX.out HY.out).mono ?_; rintro e w1 ⟨rfl, hX1, hY1, hK1, hB1⟩)
      go_roundw
      case rel =>
        refine ⟨k + 1, by omega, by go_num, ?_, ?_, ?_, ?_⟩
        · exact (hK1.2 _ (lt_of_block HZ.out) (by omega)).trans HZ.out
        · rw [EX.out]; exact hX1
        · rw [EY.out]; exact hY1
        · exact hB.trans (hB1.mono (by omega))
      case measure => simp [intOf]; omega
    · have ek : l.take k = l := List.take_of_length_le (by omega)
      rw [ek] at hX hY
      have HX := Lib.hid hX
      have HY := Lib.hid hY
      have HZ := Lib.hid hZ
      clear hX hY hZ ek
      go_wp2_with (go_at_call 84; refine (done_any (w.heap.size + 1) (w.heap.size + 1 + 1) _ _ _ HX.out HY.out).mono ?_; rintro e w1 ⟨rfl, hB1⟩; have hZ1 := (hB1.block _ (lt_of_block HZ.out)).trans HZ.out; obtain ⟨m0, m1, m2, m3, m4, m5, m6, m7⟩ := cells8 hZ1; obtain ⟨q0, q1, q2, q3, q4, q5, q6, q7⟩ := free8 hZ1; clear hZ1; unfold sumV)
      refine bodyPost_ret (v := sumV (fxs 7 l) (fys 11 l)) (by simp [results, Try.results74, go_sem, sumV, same_if, m0, m1, m2, m3, m4, m5, m6, m7]) rfl ⟨rfl, ?_⟩
      have B2 := hB.trans (hB1.mono hB.size)
      exact (((((((B2.setCell (p := ⟨_, 0, none⟩) (Nat.le_refl _) _).setCell (p := ⟨_, 1, none⟩) (Nat.le_refl _) _).setCell (p := ⟨_, 2, none⟩) (Nat.le_refl _) _).setCell (p := ⟨_, 3, none⟩) (Nat.le_refl _) _).setCell (p := ⟨_, 4, none⟩) (Nat.le_refl _) _).setCell (p := ⟨_, 5, none⟩) (Nat.le_refl _) _).setCell (p := ⟨_, 6, none⟩) (Nat.le_refl _) _).setCell (p := ⟨_, 7, none⟩) (Nat.le_refl _) _
end Go.Proofs.Ytoolionhheiihaa.Dg

/- digest.sum.text, digest.Of, digest.Pair, digest.rooted. -/
set_option linter.unusedVariables false
set_option linter.unusedSimpArgs false
namespace Go.Proofs.Ytoolionhheiihaa.Dg
open Go.RowKit Go.Proofs.YtoolionhheiihaaW.PrintWords
/-- A digest as a string. -/
def dg (x y : Int) : ByteArray := strOfNums [bb x 16777216, bb x 65536, bb x 256, bb x 1, bb y 16777216, bb y 65536, bb y 256, bb y 1]
set_option maxHeartbeats 400000 in
theorem text_any (x y : Int) (w : World) :
    Calls Try.prog 65 #[sumV x y] w fun e w' => e = .returned (.string (dg x y)) ∧ Below w.heap.size w w' := by
  obtain ⟨o, ho⟩ : ∃ o, o = Obj.cells #[.int .u8 (bb x 16777216), .int .u8 (bb x 65536), .int .u8 (bb x 256), .int .u8 (bb x 1), .int .u8 (bb y 16777216), .int .u8 (bb y 65536), .int .u8 (bb y 256), .int .u8 (bb y 1)] 82 (0, 0) := ⟨_, rfl⟩
  have hb : (w.alloc o).heap[w.heap.size]? = some (.cells #[.int .u8 (bb x 16777216), .int .u8 (bb x 65536), .int .u8 (bb x 256), .int .u8 (bb x 1), .int .u8 (bb y 16777216), .int .u8 (bb y 65536), .int .u8 (bb y 256), .int .u8 (bb y 1)] 82 (0, 0)) := by rw [ho]; exact heap_alloc_new _ _
  obtain ⟨d0, d1, d2, d3, d4, d5, d6, d7⟩ := cells8 hb
  have hcv : (convert 51 9 (.slice (some ⟨w.heap.size, 0, none⟩) 8 8)).run Try.prog (w.alloc o) = .ok (.string (dg x y)) (w.alloc o) := by
    refine run_convert_bytes_arg (w.alloc o) _ _ Try.underlying51 Try.underlying5 w.heap.size 0 8 8 [bb x 16777216, bb x 65536, bb x 256, bb x 1, bb y 16777216, bb y 65536, bb y 256, bb y 1] rfl ?_ _ Try.underlying9
    intro i hi
    rw [Nat.zero_add]
    match i, hi with
    | 0, _ => exact d0
    | 1, _ => exact d1
    | 2, _ => exact d2
    | 3, _ => exact d3
    | 4, _ => exact d4
    | 5, _ => exact d5
    | 6, _ => exact d6
    | 7, _ => exact d7
  rw [ho] at hcv
  clear hb d0 d1 d2 d3 d4 d5 d6 d7 ho
  unfold sumV
  go_enter Try.func65, Try.ntmps65
  go_wp2
  go_ret
  exact ⟨rfl, (Below.refl _ _).alloc (Nat.le_refl _) _⟩
theorem C_strs {w : World} {b : Nat} {l : List ByteArray} {T : TypeId} (hl : l.length ≤ 9223372036854775807) (h : w.heap[b]? = some (.cells (l.map Value.string).toArray T (0, 0))) : Kd.C Kd.string w (some ⟨b, 0, none⟩) l.length l := by
  refine ⟨rfl, hl, fun _ => ⟨_, rfl, fun j p hj => ⟨[.string p], rfl, rfl, ?_⟩⟩⟩
  intro i u hu
  cases i with
  | succ i => simp at hu
  | zero =>
    simp at hu
    subst hu
    have hj' := (List.getElem?_eq_some_iff.1 hj)
    obtain ⟨hlt, rfl⟩ := hj'
    have e : (⟨b, 0, none⟩ : Addr).add (j * Kd.string.sz + 0) = ⟨b, j, none⟩ := by rw [add_plain]; simp [show Kd.string.sz = 1 from rfl]
    rw [e]
    simp [World.cell?, h, hlt]
/-- What digest.Of returns. -/
def OfB (a : ByteArray) : ByteArray := dg (fx 7 a.data.toList) (fy 11 a.data.toList)
set_option maxHeartbeats 400000 in
theorem Of_any (a : ByteArray) (ha : a.size ≤ 9223372036854775807) (w : World) :
    Calls Try.prog 47 #[.string a] w fun e w' => e = .returned (.string (OfB a)) ∧ Below w.heap.size w w' := by
  go_enter Try.func47, Try.ntmps47
  go_wp2_with (first | (go_at_call 74; refine (of_any (some ⟨w.heap.size, 0, none⟩) 1 [a] _ ?c1 ?c2).mono ?_; (case c1 => exact C_strs (by simp) (heap_alloc_new w _)); (case c2 => simp; exact ha); rintro e w1 ⟨rfl, hB1⟩) | (go_at_call 65; refine (text_any _ _ _).mono ?_; rintro e w2 ⟨rfl, hB2⟩))
  go_ret
  exact ⟨rfl, ((Below.refl _ _).alloc (Nat.le_refl _) _).trans ((hB1.mono (by simp)).trans (hB2.mono (by have := hB1.size; simp at this; omega)))⟩
theorem fx_append (a b : List UInt8) (x : Int) : fx x (a ++ b) = fx (fx x a) b := by simp [fx]
theorem fy_append (a b : List UInt8) (x : Int) : fy x (a ++ b) = fy (fy x a) b := by simp [fy]
theorem fxs_flat (l : List ByteArray) : ∀ x : Int, fxs x l = fx x (l.flatMap fun s => s.data.toList) := by
  induction l with
  | nil => intro x; rfl
  | cons s l ih => intro x; rw [List.flatMap_cons, fx_append, ← ih]; rfl
theorem fys_flat (l : List ByteArray) : ∀ x : Int, fys x l = fy x (l.flatMap fun s => s.data.toList) := by
  induction l with
  | nil => intro x; rfl
  | cons s l ih => intro x; rw [List.flatMap_cons, fy_append, ← ih]; rfl
/-- The four bytes of a length. -/
def n4 (n : Nat) : ByteArray := strOfNums [bb n 16777216, bb n 65536, bb n 256, bb n 1]
/-- What digest.Pair returns. -/
def PairB (a b : ByteArray) : ByteArray := OfB (((⟨#[1]⟩ ++ n4 a.size) ++ a) ++ b)
theorem pair_eq (a b : ByteArray) : dg (fxs 7 [⟨#[1]⟩, n4 a.size, a, b]) (fys 11 [⟨#[1]⟩, n4 a.size, a, b]) = PairB a b := by
  rw [fxs_flat, fys_flat]
  simp [PairB, OfB]
theorem one4 {w : World} {b : Nat} {v0 v1 v2 v3 : Value} {T : TypeId} (h : w.heap[b]? = some (.cells #[v0, v1, v2, v3] T (0, 0))) :
    w.cell? ⟨b, 0, none⟩ = some v0 ∧ w.cell? ⟨b, 1, none⟩ = some v1 ∧ w.cell? ⟨b, 2, none⟩ = some v2 ∧ w.cell? ⟨b, 3, none⟩ = some v3 := by
  simp [World.cell?, h]
theorem new_at {w : World} {n : Nat} (h : w.heap.size = n) (o : Obj) : (w.alloc o).heap[n]? = some o := h ▸ heap_alloc_new w o
theorem n4_size (n : Nat) : (n4 n).size = 4 := by simp [n4, strOfNums_size]
set_option maxHeartbeats 800000 in
theorem Pair_any (a b : ByteArray) (ha : a.size ≤ 9223372036854775807) (hb : b.size ≤ 9223372036854775807) (w : World) :
    Calls Try.prog 73 #[.string a, .string b] w fun e w' => e = .returned (.string (PairB a b)) ∧ Below w.heap.size w w' := by
  go_enter Try.func73, Try.ntmps73
  go_wp2_with (go_at_call 81; refine (put_blk w.heap.size 0 4 (by omega) (a.size : Int) _ #[.int .u8 0, .int .u8 0, .int .u8 0, .int .u8 0] 101 ?c1 ?c2).mono ?_; (case c1 => exact heap_alloc_new w _); (case c2 => simp); rintro e w1 ⟨rfl, h1, k1, b1, z1⟩; simp at h1 z1; obtain ⟨d0, d1, d2, d3⟩ := one4 h1; have hcv : (convert 51 9 (.slice (some ⟨w.heap.size, 0, none⟩) 4 4)).run Try.prog w1 = .ok (.string (n4 a.size)) w1 := run_convert_bytes_arg w1 _ _ Try.underlying51 Try.underlying5 w.heap.size 0 4 4 [bb a.size 16777216, bb a.size 65536, bb a.size 256, bb a.size 1] rfl (fun i hi => by rw [Nat.zero_add]; match i, hi with | 0, _ => exact d0 | 1, _ => exact d1 | 2, _ => exact d2 | 3, _ => exact d3) _ Try.underlying9; have B1 := Lib.hid (Below.trans ((Below.refl w.heap.size w).alloc (Nat.le_refl _) _) b1); clear b1 k1 h1 d0 d1 d2 d3)
  have Z1 := Lib.hid z1
  clear z1 hcv
  refine (of_any (some ⟨w.heap.size + 1, 0, none⟩) 4 [⟨#[1]⟩, n4 a.size, a, b] _ ?_ ?_).mono ?_
  · exact C_strs (by simp) (new_at Z1.out _)
  · intro s hs
    simp only [List.mem_cons, List.not_mem_nil, or_false] at hs
    rcases hs with rfl | rfl | rfl | rfl
    · decide
    · rw [n4_size]; omega
    · exact ha
    · exact hb
  rintro e w2 ⟨rfl, hB2⟩
  go_wp2_with (go_at_call 65; refine (text_any _ _ _).mono ?_; rintro e w3 ⟨rfl, hB3⟩)
  go_ret
  rw [pair_eq]
  have s2 := hB2.size
  have s1 := Z1.out
  simp at s2
  exact ⟨rfl, B1.out.trans (((Below.refl _ _).alloc (by omega) _).trans ((hB2.mono (by simp; omega)).trans (hB3.mono (by omega))))⟩
end Go.Proofs.Ytoolionhheiihaa.Dg

/- digest.rooted, digest.Verify. -/
set_option linter.unusedVariables false
set_option linter.unusedSimpArgs false
namespace Go.Proofs.Ytoolionhheiihaa.Dg
open Go.RowKit Go.Proofs.YtoolionhheiihaaW.PrintWords
/-- The strings of a root, one behind the other. -/
def RootB (h : Int) (top : ByteArray) : ByteArray := OfB ((⟨#[2]⟩ ++ strOfNums [h % 256]) ++ top)
theorem root_eq (h : Int) (b : ByteArray) : dg (fxs 7 [⟨#[2]⟩, strOfNums [h % 256], b]) (fys 11 [⟨#[2]⟩, strOfNums [h % 256], b]) = RootB h b := by
  rw [fxs_flat, fys_flat]
  simp [RootB, OfB]
/-- The numbers of a root. -/
def rx (h : Int) (b : ByteArray) : Int := fxs 7 [⟨#[2]⟩, strOfNums [h % 256], b]
def ry (h : Int) (b : ByteArray) : Int := fys 11 [⟨#[2]⟩, strOfNums [h % 256], b]
set_option maxHeartbeats 800000 in
theorem rooted_any (h : Int) (b : ByteArray) (hb : b.size ≤ 9223372036854775807) (w : World) :
    Calls Try.prog 64 #[.int .i64 h, .string b] w fun e w' => e = .returned (sumV (rx h b) (ry h b)) ∧ Below w.heap.size w w' := by
  have hcv : ∀ W : World, W.heap[w.heap.size + 1]? = some (.cells #[.int .u8 (h % 256)] 5 (0, 0)) → (convert 51 9 (.slice (some ⟨w.heap.size + 1, 0, none⟩) 1 1)).run Try.prog W = .ok (.string (strOfNums [h % 256])) W := fun W hW =>
    run_convert_bytes_arg W _ _ Try.underlying51 Try.underlying5 (w.heap.size + 1) 0 1 1 [h % 256] rfl (fun i hi => by rw [Nat.zero_add]; match i, hi with | 0, _ => exact cell_of_one hW) _ Try.underlying9
  have hcv2 := hcv _ (new2 w Z8 (.cells #[.int .u8 (h % 256)] 5))
  unfold Z8 at hcv2
  clear hcv
  go_enter Try.func64, Try.ntmps64
  go_wp2_with fail
  clear hcv2
  refine (of_any (some ⟨w.heap.size + 1 + 1, 0, none⟩) 3 [⟨#[2]⟩, strOfNums [h % 256], b] _ ?_ ?_).mono ?_
  · exact C_strs (by simp) (three_new _ _ _ _).2.2
  · intro s hs
    simp only [List.mem_cons, List.not_mem_nil, or_false] at hs
    rcases hs with rfl | rfl | rfl
    · decide
    · simp [strOfNums_size]
    · exact hb
  rintro e w1 ⟨rfl, hB1⟩
  have s1 := hB1.size
  simp at s1
  have hZ1 : w1.heap[w.heap.size]? = some Z8 := (hB1.block _ (by simp; omega)).trans (three_new _ _ _ _).1
  obtain ⟨m0, m1, m2, m3, m4, m5, m6, m7⟩ := cells8 hZ1
  obtain ⟨q0, q1, q2, q3, q4, q5, q6, q7⟩ := free8 hZ1
  have B2 : Below w.heap.size w w1 := Below.trans ((((Below.refl _ _).alloc (Nat.le_refl _) _).alloc (by simp) _).alloc (by simp; omega) _) (hB1.mono (by simp; omega))
  have HB := Lib.hid B2
  clear hZ1 hB1 B2 s1
  show _
  unfold sumV
  go_wp2
  refine bodyPost_ret (v := sumV (rx h b) (ry h b)) (by simp [results, Try.results64, go_sem, sumV, rx, ry, same_if, m0, m1, m2, m3, m4, m5, m6, m7]) rfl ⟨rfl, ?_⟩
  exact (((((((HB.out.setCell (p := ⟨_, 0, none⟩) (Nat.le_refl _) _).setCell (p := ⟨_, 1, none⟩) (Nat.le_refl _) _).setCell (p := ⟨_, 2, none⟩) (Nat.le_refl _) _).setCell (p := ⟨_, 3, none⟩) (Nat.le_refl _) _).setCell (p := ⟨_, 4, none⟩) (Nat.le_refl _) _).setCell (p := ⟨_, 5, none⟩) (Nat.le_refl _) _).setCell (p := ⟨_, 6, none⟩) (Nat.le_refl _) _).setCell (p := ⟨_, 7, none⟩) (Nat.le_refl _) _
end Go.Proofs.Ytoolionhheiihaa.Dg

/- Two arrays of eight bytes are compared. -/
set_option linter.unusedVariables false
set_option linter.unusedSimpArgs false
namespace Go.Proofs.Ytoolionhheiihaa.Dg
open Go.RowKit Go.Proofs.YtoolionhheiihaaW.PrintWords
def arr8 (l : List Int) : Array Value := (l.map (Value.int .u8)).toArray
theorem eqItems_ints (W : World) (xs ys : List Int) (d : Nat) : ∀ is : List Nat, (∀ i ∈ is, i < xs.length ∧ i < ys.length) →
    (Op.eqItems (d + 1) 5 1 (arr8 xs) (arr8 ys) is).run Try.prog W = .ok (is.all fun i => xs.getD i 0 == ys.getD i 0) W := by
  intro is
  induction is with
  | nil => intro _; simp [Op.eqItems]
  | cons i is ih =>
    intro h
    obtain ⟨h1, h2⟩ := h i (by simp)
    have ih' := ih (fun j hj => h j (by simp [hj]))
    have hk : Try.prog.plainKey 5 = true := by kernel_rfl
    have p1 : (part 5 (arr8 xs) (i * 1)).run Try.prog W = .ok (.int .u8 (xs.getD i 0)) W := run_part_plain W hk (by simp [arr8, h1])
    have p2 : (part 5 (arr8 ys) (i * 1)).run Try.prog W = .ok (.int .u8 (ys.getD i 0)) W := run_part_plain W hk (by simp [arr8, h2])
    have p3 := run_equalIn_int (P := Try.prog) W d 5 .u8 .u8 (xs.getD i 0) (ys.getD i 0) Try.underlying5
    rw [Op.eqItems]
    simp only [Sem.run_bind, p1, p2, p3, Result.andThen_ok, List.all_cons]
    cases hb : (xs.getD i 0 == ys.getD i 0)
    · simp
    · simpa using ih'
set_option maxRecDepth 100000 in
theorem eq8 (W : World) (a0 a1 a2 a3 a4 a5 a6 a7 b0 b1 b2 b3 b4 b5 b6 b7 : Int) :
    (Op.equalIn 10000 82 (.agg #[.int .u8 a0, .int .u8 a1, .int .u8 a2, .int .u8 a3, .int .u8 a4, .int .u8 a5, .int .u8 a6, .int .u8 a7]) (.agg #[.int .u8 b0, .int .u8 b1, .int .u8 b2, .int .u8 b3, .int .u8 b4, .int .u8 b5, .int .u8 b6, .int .u8 b7])).run Try.prog W
      = .ok (decide ([a0, a1, a2, a3, a4, a5, a6, a7] = [b0, b1, b2, b3, b4, b5, b6, b7])) W := by
  obtain ⟨i, hi⟩ : ∃ i, Try.prog.info? 5 = some i := ⟨_, rfl⟩
  have hc : Try.prog.cellsOf 5 = 1 := by kernel_rfl
  have h := run_equalIn_array (P := Try.prog) W 9999 (arr8 [a0, a1, a2, a3, a4, a5, a6, a7]) (arr8 [b0, b1, b2, b3, b4, b5, b6, b7]) Try.underlying82 hi
  rw [hc, eqItems_ints W _ _ 9998 _ (by intro i hi; simp at hi ⊢; omega)] at h
  refine h.trans ?_
  congr 1
  rw [Bool.eq_iff_iff]
  simp [List.range, List.range.loop]
end Go.Proofs.Ytoolionhheiihaa.Dg

/- digest.Verify. -/
set_option linter.unusedVariables false
set_option linter.unusedSimpArgs false
namespace Go.Proofs.Ytoolionhheiihaa.Dg
open Go.RowKit Go.Proofs.YtoolionhheiihaaW.PrintWords
def vstep (st : ByteArray × Int) (p : ByteArray) : ByteArray × Int := (if st.2 % 2 = 0 then PairB st.1 p else PairB p st.1, st.2 / 2)
def vf (leaf : ByteArray) (i : Int) (l : List ByteArray) : ByteArray × Int := l.foldl vstep (leaf, i)
set_option maxRecDepth 100000 in
set_option maxHeartbeats 400000 in
theorem Verify_no (root leaf : ByteArray) (i : Int) (A : Option Addr) (c : Nat) (l : List ByteArray) (w : World) (hl : l.length ≤ 9223372036854775807)
    (h : root.size ≠ 8 ∨ 20 < l.length ∨ i < 0 ∨ i / 2 ^ l.length ≠ 0) :
    Calls Try.prog 46 #[.string root, .string leaf, .int .i64 i, .slice A l.length c] w fun e w' => e = .returned (.bool false) ∧ w' = w := by
  by_cases h1 : root.size = 8
  · have b1 : ((root.size : Int) != 8) = false := by simp [h1]
    by_cases h2 : l.length ≤ 20
    · have b2 : decide ((20 : Int) < (l.length : Int)) = false := by simp; omega
      have b22 : decide (20 < l.length) = false := by simp; omega
      by_cases h3 : 0 ≤ i
      · have b3 : decide (i < 0) = false := by simp; omega
        have h4 : i / 2 ^ l.length ≠ 0 := by
          rcases h with h | h | h | h
          · exact absurd h1 h
          · omega
          · omega
          · exact h
        have b4 : (i / 2 ^ l.length != 0) = true := by simpa using h4
        go_enter Try.func46, Try.ntmps46
        go_wp2
        go_ret
        exact ⟨rfl, rfl⟩
      · have b3 : decide (i < 0) = true := by simp; omega
        clear h
        go_enter Try.func46, Try.ntmps46
        go_wp2
        go_ret
        exact ⟨rfl, rfl⟩
    · have b2 : decide ((20 : Int) < (l.length : Int)) = true := by simp; omega
      have b22 : decide (20 < l.length) = true := by simp; omega
      clear h
      go_enter Try.func46, Try.ntmps46
      go_wp2
      go_ret
      exact ⟨rfl, rfl⟩
  · have b1 : ((root.size : Int) != 8) = true := by simp; omega
    clear h
    go_enter Try.func46, Try.ntmps46
    go_wp2
    go_ret
    exact ⟨rfl, rfl⟩
theorem and1 (x : Int) (h0 : 0 ≤ x) (h1 : x ≤ 9223372036854775807) : bits .and .i64 x 1 = x % 2 := bits_mask .i64 63 (by decide) (fun n h0 h1 => by rw [IntKind.wrap_i64]; omega) 1 (by decide) x h0 (by omega)
theorem PairB_size (a b : ByteArray) : (PairB a b).size = 8 := by simp [PairB, OfB, dg, strOfNums_size]
theorem vf_snoc (leaf : ByteArray) (i : Int) (l : List ByteArray) (k : Nat) (s : ByteArray) (h : l[k]? = some s) : vf leaf i (l.take (k + 1)) = vstep (vf leaf i (l.take k)) s := by
  rw [List.take_add_one, h]; simp [vf]
theorem vf_nonneg (l : List ByteArray) : ∀ (leaf : ByteArray) (i : Int), 0 ≤ i → i ≤ 9223372036854775807 → leaf.size ≤ 9223372036854775807 → 0 ≤ (vf leaf i l).2 ∧ (vf leaf i l).2 ≤ 9223372036854775807 ∧ (vf leaf i l).1.size ≤ 9223372036854775807 := by
  induction l with
  | nil => intro leaf i h h1 h2; exact ⟨h, h1, h2⟩
  | cons p l ih =>
    intro leaf i h h1 h2
    have := ih (vstep (leaf, i) p).1 (vstep (leaf, i) p).2 (by simp only [vstep]; omega) (by simp only [vstep]; omega) (by simp only [vstep]; split <;> rw [PairB_size] <;> omega)
    exact this
theorem below_bytes {B : Nat} {w W : World} (h : Below B w W) (hB : B ≤ W.heap.size) (e : TypeId) (s : ByteArray) : Below B w (Lib.bytesWorld W e s) :=
  ⟨h.os, h.tape, h.output, Nat.le_trans h.size (by rw [Lib.bytesWorld_size]; omega), fun k hk => (Lib.bytesWorld_at_old W e s k (by omega)).trans (h.block k hk)⟩
theorem endA {w wr w2 : World} {e : TypeId} {s : ByteArray} (hB : Below w.heap.size w wr) (h2 : Below (Lib.bytesWorld wr.drew e s).heap.size (Lib.bytesWorld wr.drew e s) w2) : Below w.heap.size w w2 :=
  (below_bytes hB.drew hB.size e s).trans (h2.mono (by rw [Lib.bytesWorld_size]; have := hB.size; show _ ≤ wr.heap.size + 1; omega))
theorem endB {w wr w2 : World} {e : TypeId} {s : ByteArray} (hB : Below w.heap.size w wr) (h2 : Below wr.drew.heap.size wr.drew w2) : Below w.heap.size w (Lib.bytesWorld w2 e s) :=
  below_bytes (hB.drew.trans (h2.mono hB.size)) (Nat.le_trans hB.size h2.size) e s
/-- Byte j of a string. -/
def rb (root : ByteArray) (j : Nat) : Int := ((root.data.toList.getD j 0).toNat : Int)
theorem byt8 (W : World) (root : ByteArray) (h : root.size = 8) (n : Nat) (hn : n = W.heap.size) : ∀ W2 : World, Below (Lib.bytesWorld W 5 root).heap.size (Lib.bytesWorld W 5 root) W2 →
    W2.cell? ⟨n, 0, none⟩ = some (.int .u8 (rb root 0)) ∧ W2.cell? ⟨n, 1, none⟩ = some (.int .u8 (rb root 1)) ∧ W2.cell? ⟨n, 2, none⟩ = some (.int .u8 (rb root 2)) ∧ W2.cell? ⟨n, 3, none⟩ = some (.int .u8 (rb root 3)) ∧
    W2.cell? ⟨n, 4, none⟩ = some (.int .u8 (rb root 4)) ∧ W2.cell? ⟨n, 5, none⟩ = some (.int .u8 (rb root 5)) ∧ W2.cell? ⟨n, 6, none⟩ = some (.int .u8 (rb root 6)) ∧ W2.cell? ⟨n, 7, none⟩ = some (.int .u8 (rb root 7)) := by
  intro W2 hb
  subst hn
  have key : ∀ j, j < 8 → W2.cell? ⟨W.heap.size, j, none⟩ = some (.int .u8 (rb root j)) := fun j hj =>
    (hb.cell (p := ⟨W.heap.size, j, none⟩) (by show W.heap.size < _; rw [Lib.bytesWorld_size]; omega)).trans (Lib.bytesWorld_cell W 5 root j (by omega))
  exact ⟨key 0 (by omega), key 1 (by omega), key 2 (by omega), key 3 (by omega), key 4 (by omega), key 5 (by omega), key 6 (by omega), key 7 (by omega)⟩
theorem root8 (root : ByteArray) (h : root.size = 8) (x y : Int) : decide ([rb root 0, rb root 1, rb root 2, rb root 3, rb root 4, rb root 5, rb root 6, rb root 7] = [bb x 16777216, bb x 65536, bb x 256, bb x 1, bb y 16777216, bb y 65536, bb y 256, bb y 1]) = decide (root = dg x y) := by
  obtain ⟨⟨l⟩⟩ := root
  have hl : l.length = 8 := by simpa [ByteArray.size] using h
  match l, hl with
  | [c0, c1, c2, c3, c4, c5, c6, c7], _ =>
    have e : ∀ (c : UInt8) (n p : Int), ((c.toNat : Int) = bb n p) ↔ c = UInt8.ofNat (bb n p).toNat := by
      intro c n p
      have hc := c.toNat_lt
      have h0 : 0 ≤ bb n p ∧ bb n p < 256 := by unfold bb; omega
      constructor
      · intro h
        apply UInt8.toNat_inj.1
        rw [UInt8.toNat_ofNat']
        omega
      · intro h
        rw [h, UInt8.toNat_ofNat']
        omega
    simp [rb, dg, strOfNums, e]
set_option maxRecDepth 100000 in
set_option maxHeartbeats 800000 in
theorem Verify_yes (root leaf : ByteArray) (i : Int) (A : Option Addr) (c : Nat) (l : List ByteArray) (w : World) (hsr : root.size = 8) (hll : l.length ≤ 20) (h3 : 0 ≤ i) (h31 : i ≤ 9223372036854775807) (h4 : i / 2 ^ l.length = 0)
    (hlf : leaf.size ≤ 9223372036854775807) (hr : Kd.C Kd.string w A l.length l) (hs : ∀ s ∈ l, s.size ≤ 9223372036854775807) :
    Calls Try.prog 46 #[.string root, .string leaf, .int .i64 i, .slice A l.length c] w fun e w' => e = .returned (.bool (decide (root = RootB l.length (vf leaf i l).1))) ∧ Below w.heap.size w w' := by
  have b1 : ((root.size : Int) != 8) = false := by simp [hsr]
  have b2 : decide ((20 : Int) < (l.length : Int)) = false := by simp; omega
  have b22 : decide (20 < l.length) = false := by simp; omega
  have b3 : decide (i < 0) = false := by simp; omega
  have b4 : (i / 2 ^ l.length != 0) = false := by simpa using h4
  have HSR := Lib.hid hsr
  clear hsr h4
  go_enter Try.func46, Try.ntmps46
  go_wp2
  clear b1 b2 b22 b3 b4
  go_loopw [1, 2, 32] (fun lf iv kv wr => ∃ k : Nat, k ≤ l.length ∧ kv = .int .i64 k ∧ lf = .string (vf leaf i (l.take k)).1 ∧ iv = .int .i64 (vf leaf i (l.take k)).2 ∧ Below w.heap.size w wr) (fun _ _ kv _ => l.length - (intOf kv).toNat)
  case atStart => exact ⟨0, Nat.zero_le _, rfl, rfl, rfl, Below.refl _ _⟩
  case round =>
    obtain ⟨k, hk, rfl, rfl, rfl, hB⟩ := hrel
    obtain ⟨n0, n1, n2⟩ := vf_nonneg (l.take k) leaf i h3 h31 hlf
    by_cases hlt : k < l.length
    · obtain ⟨ad, rfl, hcell⟩ := Kd.at_string (Kd.C_below hr hB) (k : Int) (by omega) (by omega)
      have hget : l[k]? = some (rdOf ByteArray.empty l (k : Int)) := by simp [rdOf, List.getD_eq_getElem?_getD, List.getElem?_eq_getElem hlt]
      have hsz := hs _ (List.mem_of_getElem? hget)
      have EX := Lib.hid (vf_snoc leaf i l k _ hget)
      generalize rdOf ByteArray.empty l (k : Int) = s at *
      generalize vf leaf i (l.take k) = st at *
      obtain ⟨lf, iv⟩ := st
      simp only at n0 n1 n2
      rw [Int.toNat_natCast] at hcell
      have HR := Lib.hid hr
      clear hr hget hs
      have hand := and1 iv n0 n1
      by_cases hev : iv % 2 = 0
      · have t1 : (bits .and .i64 iv 1 == 0) = true := by rw [hand]; simpa using hev
        clear hand
        go_wp2_with (go_at_call 73; refine (Pair_any lf s n2 hsz _).mono ?_; rintro e w1 ⟨rfl, hB1⟩)
        go_roundw
        case rel =>
          refine ⟨k + 1, by omega, by go_num, ?_, ?_, hB.trans (hB1.mono hB.size)⟩
          · rw [EX.out]; simp [vstep, hev]
          · rw [EX.out]; rfl
        case measure => simp [intOf]; omega
      · have t1 : (bits .and .i64 iv 1 == 0) = false := by rw [hand]; simpa using hev
        clear hand
        go_wp2_with (go_at_call 73; refine (Pair_any s lf hsz n2 _).mono ?_; rintro e w1 ⟨rfl, hB1⟩)
        go_roundw
        case rel =>
          refine ⟨k + 1, by omega, by go_num, ?_, ?_, hB.trans (hB1.mono hB.size)⟩
          · rw [EX.out]; simp [vstep, hev]
          · rw [EX.out]; rfl
        case measure => simp [intOf]; omega
    · have ek : l.take k = l := List.take_of_length_le (by omega)
      rw [ek] at n0 n1 n2 ⊢
      generalize hst : vf leaf i l = st at *
      obtain ⟨lf, iv⟩ := st
      simp only at n0 n1 n2
      have HST := Lib.hid hst
      clear ek hst
      have hcv : ∀ W : World, (convert 9 51 (.string root)).run Try.prog W = .ok (.slice (some ⟨W.heap.size, 0, none⟩) 8 (grownCap W root.size 0 5)) (Lib.bytesWorld W 5 root) := by
        intro W
        have := Lib.run_convert_string_bytes (P := Try.prog) W _ _ 5 root Try.underlying9 Try.underlying51 Try.underlying5
        rw [HSR.out] at this
        rw [HSR.out]
        exact this
      have hq : ∀ W : World, (Op.equalIn 10000 82 (.agg #[.int .u8 (rb root 0), .int .u8 (rb root 1), .int .u8 (rb root 2), .int .u8 (rb root 3), .int .u8 (rb root 4), .int .u8 (rb root 5), .int .u8 (rb root 6), .int .u8 (rb root 7)]) (sumV (rx l.length lf) (ry l.length lf))).run Try.prog W = .ok (decide (root = RootB l.length lf)) W := by
        intro W
        rw [← root_eq, ← root8 root HSR.out]
        exact eq8 W _ _ _ _ _ _ _ _ _ _ _ _ _ _ _ _
      have hat : ∀ (W : World) (b c : Nat), (Instr.arrayAt 82 (.slice (some ⟨b, 0, none⟩) 8 c)).run Try.prog W = .ok (.pointer (some ⟨b, 0, none⟩)) W := by
        intro W b c
        simp [Instr.arrayAt, run_underlying Try.underlying82]
      have hgm : Try.prog.eqGuardType Try.prog.depth 82 = false := by kernel_rfl
      have hgd : ∀ (W : World) (xs ys : Array Value), (eqGuard .eql 82 (.tmp 51) (.tmp 55) (.agg xs) (.agg ys)).run Try.prog W = .ok () W := fun W xs ys => run_eqGuard_agg W .eql _ _ _ xs ys hgm
      unfold sumV at hq
      obtain ⟨e0, e1, e2, e3, e4, e5, e6, e7⟩ := byt8 wr.drew root HSR.out wr.heap.size rfl _ (Below.refl _ _)
      go_wp2
      go_region_with (go_at_call 64; refine (rooted_any l.length lf n2 _).mono ?_; rintro e w2 ⟨rfl, hB2⟩; unfold sumV; first | (have hq2 := byt8 wr.drew root HSR.out wr.heap.size rfl _ hB2; obtain ⟨x0, x1, x2, x3, x4, x5, x6, x7⟩ := hq2) | (have hq2 := byt8 w2 root HSR.out w2.heap.size rfl _ (Below.refl _ _); obtain ⟨x0, x1, x2, x3, x4, x5, x6, x7⟩ := hq2))
      all_goals go_wp2
      all_goals go_ret
      all_goals refine ⟨by rw [HST.out]; first | rfl | (simp; done), ?_⟩
      all_goals first
        | exact endA hB hB2
        | exact endB hB hB2
end Go.Proofs.Ytoolionhheiihaa.Dg

/- digest.levels: the levels of a tree, handed out one after the other. -/
set_option linter.unusedVariables false
set_option linter.unusedSimpArgs false
namespace Go.Proofs.Ytoolionhheiihaa.Dg
open Go.RowKit Go.Proofs.YtoolionhheiihaaW.PrintWords Go.Proofs.Ytoolionhheiihaa.Rng
attribute [local go_sem] Oper.semAt_some
/-- m is n, filled up to a power of two. -/
def Up (n m : Nat) : Prop := (∃ j, m = 2 ^ j) ∧ n ≤ m ∧ (m = 1 ∨ m < 2 * n)
/-- The list filled up to m elements. -/
def fill (l : List ByteArray) (m : Nat) : List ByteArray := l ++ List.replicate (m - l.length) ⟨#[]⟩
/-- The level above a level. -/
def above (r : List ByteArray) : List ByteArray := (List.range (r.length / 2)).map fun i => PairB (r.getD (2 * i) ⟨#[]⟩) (r.getD (2 * i + 1) ⟨#[]⟩)
def lev (r : List ByteArray) : Nat → List ByteArray
  | 0 => r
  | k + 1 => above (lev r k)
/-- A level, as it is handed out: its number, where it lies, what it is. -/
structure Lv where
  k : Nat
  g : Nat
  r : List ByteArray
def Lv.encs (x : Lv) : Array Value := #[.int .i64 x.k, .slice (some ⟨x.g, 0, none⟩) x.r.length x.r.length]
def strs (l : List ByteArray) : Array Value := (l.map Value.string).toArray
/-- What is so of a level when it is handed out. -/
def Lv.X (l : List ByteArray) (pre : List Lv) (x : Lv) (W : World) : Prop := x.k = pre.length ∧ W.heap[x.g]? = some (.cells (strs x.r) 9 (0, 0)) ∧ (∀ s ∈ x.r, s.size ≤ 9223372036854775807) ∧ ∃ h : Nat, Up l.length (2 ^ h) ∧ x.k ≤ h ∧ x.r = lev (fill l (2 ^ h)) x.k
def LvS (l : List ByteArray) (xs : List Lv) : Prop := ∃ h, Up l.length (2 ^ h) ∧ xs.map (fun x => (x.k, x.r)) = (List.range (h + 1)).map fun k => (k, lev (fill l (2 ^ h)) k)
theorem C_get {A : Option Addr} {l : List ByteArray} {W : World} (h : Kd.C Kd.string W A l.length l) (hp : 0 < l.length) : ∃ ad, A = some ad ∧ ∀ j s, l[j]? = some s → W.cell? (ad.add j) = some (.string s) := by
  obtain ⟨ad, e, hc⟩ := h.2.2 hp
  refine ⟨ad, e, fun j s hj => ?_⟩
  obtain ⟨c, hcl, hK, hcc⟩ := hc j s hj
  have hK' : c = [.string s] := hK
  have := hcc 0 (.string s) (by rw [hK']; rfl)
  rwa [Nat.add_zero, show Kd.string.sz = 1 from rfl, Nat.mul_one] at this
theorem cell_at3 {w : World} {g i : Nat} {l : List ByteArray} {T : TypeId} (h : w.heap[g]? = some (.cells (strs l) T (0, 0))) (hi : i < l.length) : w.cell? ⟨g, i, none⟩ = some (.string (l.getD i ⟨#[]⟩)) := by
  simp [World.cell?, h, strs, hi]
theorem free_at3 {w : World} {g i : Nat} {l : List ByteArray} {T : TypeId} (h : w.heap[g]? = some (.cells (strs l) T (0, 0))) : w.frozen? ⟨g, i, none⟩ = false := by
  simp [World.frozen?, h]
theorem strs_set (l : List ByteArray) (i : Nat) (x : ByteArray) : (strs l).setIfInBounds i (.string x) = strs (l.set i x) := by
  simp [strs, List.map_set]
theorem set_step {α : Type} (A : List α) (z x : α) (i q : Nat) (hA : A.length = q) (hx : A[i]? = some x) : (A.take i ++ List.replicate (q - i) z).set i x = A.take (i + 1) ++ List.replicate (q - (i + 1)) z := by
  have hi : i < A.length := (List.getElem?_eq_some_iff.1 hx).1
  rw [List.set_append_right _ _ (by simp; omega), show q - i = (q - (i + 1)) + 1 by omega, List.replicate_succ]
  have e : i - (A.take i).length = 0 := by simp; omega
  rw [e, List.set_cons_zero, List.take_add_one, hx]
  simp
theorem above_len (r : List ByteArray) : (above r).length = r.length / 2 := by simp [above]
theorem above_get (r : List ByteArray) (i : Nat) (a b : ByteArray) (hi : i < r.length / 2) (ha : r[2 * i]? = some a) (hb : r[2 * i + 1]? = some b) : (above r)[i]? = some (PairB a b) := by
  simp [above, hi, List.getD_eq_getElem?_getD, ha, hb]
theorem PairB_len (a b : ByteArray) : (PairB a b).size = 8 := by simp [PairB, OfB, dg, strOfNums_size]
theorem made_strs (m : Nat) : madeCells #[.string ⟨#[]⟩] m = strs (List.replicate m ⟨#[]⟩) := by
  apply Array.ext
  · simp [strs, size_madeCells]
  · intro i h1 h2
    simp [strs, madeCells, Nat.mod_one]
theorem copy_in (A : Option Addr) (c : Nat) (l : List ByteArray) (m : Nat) (hm : l.length ≤ m) (W : World) (hr : Kd.C Kd.string W A l.length l) (g : Nat) (hg : W.heap[g]? = some (.cells (madeCells #[.string ⟨#[]⟩] m) 9 (0, 0))) :
    ∃ W', (∀ ty, (Builtin.copy_ #[42, 42] ty #[.slice (some ⟨g, 0, none⟩) m m, .slice A l.length c]).run Try.prog W = .ok (.int .i64 l.length) W') ∧ W'.heap[g]? = some (.cells (strs (fill l m)) 9 (0, 0)) ∧ Step (fun k => k = g) W W' ∧ W'.heap.size = W.heap.size := by
  have hsz : (Try.prog.info? 9).map (·.size) = some 1 := by kernel_rfl
  rw [made_strs] at hg
  by_cases h0 : l.length = 0
  · obtain rfl : l = [] := List.eq_nil_of_length_eq_zero h0
    refine ⟨W, fun ty => ?_, ?_, Step.refl _ _, rfl⟩
    · exact run_copy_none W _ _ ty _ _ _ _ _ _ _ Try.underlying42 hsz (by simp)
    · simpa [fill] using hg
  · obtain ⟨ad, rfl, hc⟩ := C_get hr (by omega)
    have hrun := fun ty => run_copy_row (P := Try.prog) W 42 42 ty _ g 0 m m ad l.length c _ _ (l.map Value.string) Try.underlying42 hsz hg (by show _ = min _ _; rw [Nat.min_eq_left hm]; simp) (by
      intro j v hv
      simp at hv
      obtain ⟨s, hs, rfl⟩ := hv
      exact hc j s hs) (by simp [strs]; omega) (by intro v hv; simp at hv; obtain ⟨s, _, rfl⟩ := hv; rfl)
    refine ⟨_, fun ty => (hrun ty).trans (by simp [goInt]; rfl), ?_, ?_, ?_⟩
    · rw [setRow_heap W g _ _ _ _ hg]
      simp [strs, fill]
    · refine ⟨⟨by simp, fun i _ hne => setRow_other W g i _ hne⟩, below_setRow (Below.refl _ _) (Nat.zero_le _) _⟩
    · simp
set_option maxRecDepth 100000 in
set_option maxHeartbeats 1000000 in
theorem levels_iter (n : Nat) (base b : Nat) (A : Option Addr) (c : Nat) (l : List ByteArray) (w : World) (hl : l.length ≤ 1099511627776) (hs : ∀ s ∈ l, s.size ≤ 9223372036854775807)
    (hb : w.heap[b]? = some (.cells #[.slice A l.length c] 42 (0, 0))) (hr : Kd.C Kd.string w A l.length l) :
    Iter Fence.wide n Try.prog 77 #[.pointer (some ⟨b, 0, none⟩)] Lv.encs (Lv.X l) (fun _ => False) base (LvS l) (fun _ => True) w := by
  intro L J Jx W O hW hJO hJ hJx hY h0
  have hrW := Kd.C_below hr hW
  have hbW : W.cell? ⟨b, 0, none⟩ = some (.slice A l.length c) := cell_of_one ((hW.block b (lt_of_block hb)).trans hb)
  have HRW := Lib.hid hrW
  have hbl : b < W.heap.size := Nat.lt_of_lt_of_le (lt_of_block hb) hW.size
  clear hrW
  refine callsIn_of_wp Try.func77 rfl trivial ?_ rfl
  simp only [Try.ntmps77, List.size_toArray, List.length_cons, List.length_nil, Nat.reduceAdd, Nat.reduceSub, Array.replicate_succ, Array.replicate_zero, List.push_toArray, List.append_toArray, List.nil_append, List.cons_append]
  gi_wp2
  gi_loopw [3] (fun v wr => ∃ m : Nat, v = .int .i64 m ∧ (∃ j, m = 2 ^ j) ∧ (m = 1 ∨ m < 2 * l.length) ∧ W = wr) (fun v _ => l.length - (intOf v).toNat)
  case atStart => exact ⟨1, rfl, ⟨0, rfl⟩, .inl rfl, rfl⟩
  case round =>
    obtain ⟨m, rfl, ⟨j, hj⟩, hm, rfl⟩ := hrel
    have HJ := Lib.hid hj
    clear hj
    have hpos : 0 < m := by rw [HJ.out]; exact Nat.pow_pos (by omega)
    by_cases hlt : m < l.length
    · gi_wp2
      go_roundw
      case rel => exact ⟨m * 2, by go_num, ⟨j + 1, by rw [HJ.out, Nat.pow_succ]⟩, .inr (by omega), trivial⟩
      case measure => simp [intOf]; omega
    · have hmle : l.length ≤ m := by omega
      have hinfo : (Try.prog.info? 9).map (fun i => (i.zero, i.size, i.bytes)) = some (some (.string ⟨#[]⟩), 1, 16) := by kernel_rfl
      have hmk := run_make_row' 42 9 (.string ⟨#[]⟩) 16 Try.underlying42 hinfo rfl .i64 .i64 m (by omega) (by omega)
      obtain ⟨V, hV⟩ : ∃ V, V = W.alloc (.cells (madeCells #[.string ⟨#[]⟩] m) 9) := ⟨_, rfl⟩
      obtain ⟨V', hcp, hg', hst, hz⟩ := copy_in A c l m hmle V (by rw [hV]; exact Kd.C_alloc HRW.out _) W.heap.size (by rw [hV]; exact heap_alloc_new _ _)
      rw [hV] at hcp hst hz
      clear hV
      have HZ := Lib.hid hz
      have HG := Lib.hid hg'
      have HS := Lib.hid hst
      clear hinfo hz hg' hst
      have hjm : j < m := by rw [HJ.out]; exact Nat.lt_two_pow_self
      have hg0 : ¬ O W.heap.size := fun h => by have := (hJO _ _ _ h0 _ h).2.2; omega
      have h0' : J [] O V' := hJ _ _ _ _ h0 (Step.trans (T := fun k => False ∨ W.heap.size ≤ k ∧ ¬ O k) (T' := fun k => k = W.heap.size) ((Step.refl _ _).alloc _) HS.out (fun k e => .inr (by omega)))
      have HF : (fill l m).length = 2 ^ j := by rw [← HJ.out]; simp [fill]; omega
      gi_wp2_with fail
      gi_loopw [4, 5] (fun v4 v5 wr => ∃ (pre : List Lv) (g : Nat) (r : List ByteArray) (O' : Nat → Prop), v5 = .int .i64 pre.length ∧ v4 = .slice (some ⟨g, 0, none⟩) r.length r.length ∧ J pre O' wr ∧ wr.heap[g]? = some (.cells (strs r) 9 (0, 0)) ∧ ¬ O' g ∧
        pre.map (fun x => (x.k, x.r)) = (List.range pre.length).map (fun k => (k, lev (fill l m) k)) ∧ r = lev (fill l m) pre.length ∧ r.length = 2 ^ (j - pre.length) ∧ pre.length ≤ j ∧ (∀ s ∈ r, s.size ≤ 9223372036854775807)) (fun _ v5 _ => j + 1 - (intOf v5).toNat)
      case atStart => exact ⟨[], W.heap.size, fill l m, O, rfl, by rw [HF, HJ.out], h0', HG.out, hg0, rfl, rfl, HF, Nat.zero_le _, by
        intro s hs'
        simp [fill] at hs'
        rcases hs' with h | h
        · exact hs s h
        · rw [h.2]; decide⟩
      case round =>
        obtain ⟨pre, g, r, O', rfl, rfl, hJ', hG, hOg, hpre, hrr, hrl, hkj, hrs⟩ := hrel
        clear hbW HS HG HZ h0' hmk hcp
        obtain ⟨fn, tmps, assign, body, hy, hR⟩ := hY pre ⟨pre.length, g, r⟩ O' wr hJ' ⟨rfl, hG, hrs, j, ⟨⟨j, rfl⟩, by rw [← HJ.out]; exact hmle, by rw [← HJ.out]; exact hm⟩, hkj, by rw [← HJ.out]; exact hrr⟩
        dsimp only [Lv.encs] at hy
        have HPRE := Lib.hid hpre
        have HRR := Lib.hid hrr
        have HRL := Lib.hid hrl
        have HGG := Lib.hid hG
        clear hpre hrr hrl hG HF
        gi_wp2
        refine ⟨fun h => absurd h (by simp [Fence.wide]), ?_⟩
        refine hR.mono ?_
        rintro e W1 (⟨rfl, O2, hJ2, hst, hgrow⟩ | ⟨rfl, O2, hJx2⟩)
        · have HST := Lib.hid hst
          have HGR := Lib.hid hgrow
          have HJ2 := Lib.hid hJ2
          clear hst hgrow hJ2
          by_cases hlast : pre.length = j
          · have t1 : decide (1 < r.length) = false := by rw [HRL.out, hlast]; simp
            have t2 : decide ((1 : Int) < (r.length : Int)) = false := by rw [HRL.out, hlast]; simp
            have HL := Lib.hid hlast
            clear hlast
            gi_wp2
            go_end0
            refine ⟨⟨_, rfl⟩, .inl ⟨pre ++ [⟨pre.length, g, r⟩], O2, ⟨j, ⟨⟨j, rfl⟩, by rw [← HJ.out]; exact hmle, by rw [← HJ.out]; exact hm⟩, ?_⟩, HJ2.out⟩⟩
            rw [List.map_append, HPRE.out, HL.out, List.range_succ, List.map_append]
            simp only [List.map_cons, List.map_nil]
            rw [HRR.out, HL.out, ← HJ.out]
          · have t1 : decide (1 < r.length) = true := by rw [HRL.out]; simp; omega
            have t2 : decide ((1 : Int) < (r.length : Int)) = true := by simp at t1 ⊢; omega
            have hinfo : (Try.prog.info? 9).map (fun i => (i.zero, i.size, i.bytes)) = some (some (.string ⟨#[]⟩), 1, 16) := by kernel_rfl
            obtain ⟨q, hq⟩ : ∃ q, r.length = 2 * q := ⟨2 ^ (j - pre.length - 1), by rw [HRL.out, ← Nat.pow_succ']; congr 1; omega⟩
            have hqm : q ≤ 2199023255552 := by
              have e1 : r.length ≤ 2 ^ j := by rw [HRL.out]; exact Nat.pow_le_pow_right (by omega) (by omega)
              rw [← HJ.out] at e1
              omega
            have hmk2 : ∀ W : World, (Instr.makeSlice 42 (.int .i64 ((r.length : Int) / 2)) (.int .i64 ((r.length : Int) / 2))).run Try.prog W = .ok (.slice (some ⟨W.heap.size, 0, none⟩) q q) (W.alloc (.cells (madeCells #[.string ⟨#[]⟩] q) 9)) := by
              rw [show ((r.length : Int) / 2) = (q : Int) from by omega]
              exact run_make_row' 42 9 (.string ⟨#[]⟩) 16 Try.underlying42 hinfo rfl .i64 .i64 q (by omega) (by omega)
            have hrb : r.length ≤ 4398046511104 := by omega
            have HQ := Lib.hid hq
            clear hinfo hq
            have hW1s := HST.out.size
            have hgW1 : g < W1.heap.size := Nat.lt_of_lt_of_le (lt_of_block HGG.out) hW1s
            have hG1 := HST.out.same HGG.out hOg
            have HG1 := Lib.hid hG1
            clear hG1
            gi_wp2_with fail
            gi_loopw [36] (fun v36 wr2 => ∃ i : Nat, i ≤ q ∧ v36 = .int .i64 i ∧ wr2.heap[W1.heap.size]? = some (.cells (strs ((above r).take i ++ List.replicate (q - i) ⟨#[]⟩)) 9 (0, 0)) ∧ Below W1.heap.size W1 wr2) (fun v36 _ => q - (intOf v36).toNat)
            case atStart => exact ⟨0, Nat.zero_le _, rfl, by rw [heap_alloc_new, made_strs]; simp, (Below.refl _ _).alloc (Nat.le_refl _) _⟩
            case round =>
              obtain ⟨i, hi, rfl, hN, hB2⟩ := hrel
              clear hmk2 t1 t2
              have hG2 := (hB2.block g hgW1).trans HG1.out
              by_cases hlt : i < q
              · have hi0 : 2 * i < r.length := by rw [HQ.out]; omega
                have hi1 : 2 * i + 1 < r.length := by rw [HQ.out]; omega
                obtain ⟨a, ha⟩ : ∃ a, r[2 * i]? = some a := ⟨_, List.getElem?_eq_getElem hi0⟩
                obtain ⟨b2, hb2⟩ : ∃ b2, r[2 * i + 1]? = some b2 := ⟨_, List.getElem?_eq_getElem hi1⟩
                have hsa := hrs a (List.mem_of_getElem? ha)
                have hsb := hrs b2 (List.mem_of_getElem? hb2)
                have hc0 : wr.cell? ⟨g, 2 * i, none⟩ = some (.string a) := by simp [World.cell?, hG2, strs, ha]
                have hc1 : wr.cell? ⟨g, 2 * i + 1, none⟩ = some (.string b2) := by simp [World.cell?, hG2, strs, hb2]
                have hx0 : 0 ≤ 2 * (i : Int) ∧ 2 * (i : Int) < (r.length : Int) := by omega
                have hx1 : 0 ≤ 2 * (i : Int) + 1 ∧ 2 * (i : Int) + 1 < (r.length : Int) := by omega
                have hx2 : 0 ≤ (i : Int) ∧ (i : Int) < (q : Int) := by omega
                have hw0 : IntKind.i64.wrap (2 * (i : Int)) = 2 * (i : Int) := IntWalk.i64_in _ (by omega)
                have hw1 : IntKind.i64.wrap (2 * (i : Int) + 1) = 2 * (i : Int) + 1 := IntWalk.i64_in _ (by omega)
                have ht0 : (2 * (i : Int)).toNat = 2 * i := by omega
                have ht1 : (2 * (i : Int) + 1).toNat = 2 * i + 1 := by omega
                have HA := Lib.hid ha
                have HB := Lib.hid hb2
                have HN := Lib.hid hN
                clear ha hb2 hN hG2
                gi_wp2_with fail
                gi_region_with (refine ⟨trivial, fun h => absurd h (by simp [Fence.wide]), ?_⟩; gi_at_call 73; refine (callsIn_wide.2 (Pair_any a b2 hsa hsb _)).mono ?_; rintro e w3 ⟨rfl, hB3⟩; have hN3 := (hB3.block W1.heap.size (lt_of_block HN.out)).trans HN.out; have hc3 := cell_at3 hN3 (i := i) (by simp [above]; omega); have hf3 := free_at3 hN3 (i := i))
                all_goals gi_wp2
                all_goals
                  go_roundw
                  case rel =>
                    refine ⟨i + 1, by omega, by go_num, ?_, ((hB2.drew.trans (hB3.mono hB2.size))).setCell (p := ⟨W1.heap.size, i, none⟩) (Nat.le_refl _) _⟩
                    rw [set_blk hN3, strs_set, set_step _ _ _ _ _ (by rw [above_len, HQ.out]; omega) (above_get r i a b2 (by rw [HQ.out]; omega) HA.out HB.out)]
                  case measure => simp [intOf]; omega
              · have ei : i = q := by omega
                subst ei
                gi_wp2
                have ha := above_len r
                have hq2 := HQ.out
                have hal : (above r).length = i := by omega
                have hN2 : wr.heap[W1.heap.size]? = some (.cells (strs (above r)) 9 (0, 0)) := by
                  rw [hN, List.take_of_length_le (by omega), Nat.sub_self]
                  simp
                refine ⟨⟨pre ++ [⟨pre.length, g, r⟩], W1.heap.size, above r, O2, ?_, ?_, hJ _ _ _ _ HJ2.out (Step.of_below hB2 _), hN2, ?_, ?_, ?_, ?_, ?_, ?_⟩, ?_⟩
                · simp
                · rw [hal]
                · intro h
                  have := (hJO _ _ _ HJ2.out _ h).2.2
                  omega
                · rw [List.length_append, List.map_append, HPRE.out, List.length_singleton, List.range_succ, List.map_append]
                  simp only [List.map_cons, List.map_nil]
                  rw [HRR.out]
                · rw [List.length_append, List.length_singleton, HRR.out]; rfl
                · rw [hal, List.length_append, List.length_singleton]
                  have e1 := HRL.out
                  rw [show j - pre.length = (j - (pre.length + 1)) + 1 by omega, Nat.pow_succ] at e1
                  omega
                · rw [List.length_append, List.length_singleton]; omega
                · intro s hs'
                  simp only [above, List.mem_map] at hs'
                  obtain ⟨i', _, rfl⟩ := hs'
                  rw [PairB_len]
                  omega
                · simp [intOf]; omega
        · gi_wp2
          go_end0
          exact ⟨⟨_, rfl⟩, .inr ⟨_, O2, trivial, hJx2⟩⟩
set_option maxRecDepth 100000 in
set_option maxHeartbeats 400000 in
theorem levels_any (A : Option Addr) (n c : Nat) (w : World) :
    Calls Try.prog 63 #[.slice A n c] w fun e w' => e = .returned (.func (.func 77) #[] #[.pointer (some ⟨w.heap.size, 0, none⟩)]) ∧ w' = w.alloc (.cells #[.slice A n c] 42) := by
  go_enter Try.func63, Try.ntmps63
  go_wp2
  go_ret
  exact ⟨rfl, rfl⟩
end Go.Proofs.Ytoolionhheiihaa.Dg

/- digest.Root. -/
set_option linter.unusedVariables false
set_option linter.unusedSimpArgs false
namespace Go.Proofs.Ytoolionhheiihaa.Dg
open Go.RowKit Go.Proofs.YtoolionhheiihaaW.PrintWords Go.Proofs.Ytoolionhheiihaa.Rng
attribute [local go_sem] Oper.semAt_some
/-- What the variable for the root holds behind some levels. -/
def outOf (xs : List Lv) : Obj := xs.foldl (fun o x => if x.r.length = 1 then .cells #[.int .u8 (bb (rx x.k (x.r.getD 0 ⟨#[]⟩)) 16777216), .int .u8 (bb (rx x.k (x.r.getD 0 ⟨#[]⟩)) 65536), .int .u8 (bb (rx x.k (x.r.getD 0 ⟨#[]⟩)) 256), .int .u8 (bb (rx x.k (x.r.getD 0 ⟨#[]⟩)) 1), .int .u8 (bb (ry x.k (x.r.getD 0 ⟨#[]⟩)) 16777216), .int .u8 (bb (ry x.k (x.r.getD 0 ⟨#[]⟩)) 65536), .int .u8 (bb (ry x.k (x.r.getD 0 ⟨#[]⟩)) 256), .int .u8 (bb (ry x.k (x.r.getD 0 ⟨#[]⟩)) 1)] 82 (0, 0) else o) Z8
def outV (n : Int) (b : ByteArray) : Obj := .cells #[.int .u8 (bb (rx n b) 16777216), .int .u8 (bb (rx n b) 65536), .int .u8 (bb (rx n b) 256), .int .u8 (bb (rx n b) 1), .int .u8 (bb (ry n b) 16777216), .int .u8 (bb (ry n b) 65536), .int .u8 (bb (ry n b) 256), .int .u8 (bb (ry n b) 1)] 82 (0, 0)
theorem outOf_no (pre : List Lv) (x : Lv) (h : ¬ x.r.length = 1) : outOf (pre ++ [x]) = outOf pre := by
  simp [outOf, h]
theorem outOf_snoc (pre : List Lv) (x : Lv) (top : ByteArray) (h : x.r.length = 1) (ht : x.r[0]? = some top) : outOf (pre ++ [x]) = outV x.k top := by
  have e : x.r.getD 0 ⟨#[]⟩ = top := by rw [List.getD_eq_getElem?_getD, ht]; rfl
  simp only [outOf, List.foldl_append, List.foldl_cons, List.foldl_nil, if_pos h, e]
  rfl
theorem outOf_form (pre : List Lv) : ∃ v0 v1 v2 v3 v4 v5 v6 v7 : Int, outOf pre = .cells #[.int .u8 v0, .int .u8 v1, .int .u8 v2, .int .u8 v3, .int .u8 v4, .int .u8 v5, .int .u8 v6, .int .u8 v7] 82 (0, 0) := by
  unfold outOf Z8
  generalize hz : (Obj.cells #[.int .u8 0, .int .u8 0, .int .u8 0, .int .u8 0, .int .u8 0, .int .u8 0, .int .u8 0, .int .u8 0] 82 (0, 0)) = z
  have h0 : ∃ v0 v1 v2 v3 v4 v5 v6 v7 : Int, z = .cells #[.int .u8 v0, .int .u8 v1, .int .u8 v2, .int .u8 v3, .int .u8 v4, .int .u8 v5, .int .u8 v6, .int .u8 v7] 82 (0, 0) := ⟨_, _, _, _, _, _, _, _, hz.symm⟩
  clear hz
  induction pre generalizing z with
  | nil => exact h0
  | cons x pre ih =>
    refine ih _ ?_
    dsimp only
    split
    · exact ⟨_, _, _, _, _, _, _, _, rfl⟩
    · exact h0
theorem fill_len (l : List ByteArray) (m : Nat) (h : l.length ≤ m) : (fill l m).length = m := by simp [fill]; omega
theorem lev_len (l : List ByteArray) (h : Nat) (hl : l.length ≤ 2 ^ h) : ∀ k, k ≤ h → (lev (fill l (2 ^ h)) k).length = 2 ^ (h - k) := by
  intro k
  induction k with
  | zero => intro _; exact fill_len l _ hl
  | succ k ih =>
    intro hk
    have e := ih (by omega)
    rw [show h - k = (h - (k + 1)) + 1 by omega, Nat.pow_succ] at e
    rw [lev, above_len, e]
    omega
theorem outOf_last (l : List ByteArray) (xs : List Lv) (hS : LvS l xs) : ∃ h : Nat, Up l.length (2 ^ h) ∧ outOf xs = outV h ((lev (fill l (2 ^ h)) h).getD 0 ⟨#[]⟩) := by
  obtain ⟨h, hup, hm⟩ := hS
  refine ⟨h, hup, ?_⟩
  rw [List.range_succ, List.map_append] at hm
  obtain ⟨l1, l2, rfl, _, h2⟩ := List.map_eq_append_iff.1 hm
  obtain ⟨x, rfl, hx⟩ := List.map_eq_singleton_iff.1 h2
  simp only [Prod.mk.injEq] at hx
  have e1 := lev_len l h hup.2.1 h (Nat.le_refl _)
  rw [Nat.sub_self, Nat.pow_zero] at e1
  obtain ⟨top, htop⟩ : ∃ top, (lev (fill l (2 ^ h)) h)[0]? = some top := ⟨_, List.getElem?_eq_getElem (by omega)⟩
  rw [outOf_snoc l1 x top (by rw [hx.2]; exact e1) (by rw [hx.2]; exact htop), hx.1, List.getD_eq_getElem?_getD, htop]
  rfl
set_option maxRecDepth 100000 in
set_option maxHeartbeats 1000000 in
theorem Root_any (A : Option Addr) (c : Nat) (l : List ByteArray) (w : World) (hl : l.length ≤ 1099511627776) (hs : ∀ s ∈ l, s.size ≤ 9223372036854775807) (hr : Kd.C Kd.string w A l.length l) :
    Calls Try.prog 34 #[.slice A l.length c] w fun e w' => ∃ h : Nat, Up l.length (2 ^ h) ∧ e = .returned (.string (RootB h ((lev (fill l (2 ^ h)) h).getD 0 ⟨#[]⟩))) ∧ Below w.heap.size w w' := by
  refine (callsIn_wide (n := 3)).1 ?_
  refine callsIn_of_wp_marks Try.func34 rfl trivial ?_ rfl
  simp only [Try.ntmps34, List.size_toArray, List.length_cons, List.length_nil, Nat.reduceAdd, Nat.reduceSub, Array.replicate_succ, Array.replicate_zero, List.push_toArray, List.append_toArray, List.nil_append, List.cons_append]
  gi_wp2_with (refine ⟨trivial, ?_⟩; gi_at_call 63; refine (callsIn_wide.2 (levels_any _ _ _ _)).mono ?_; rintro e w1 ⟨rfl, rfl⟩)
  obtain ⟨W0, hW0⟩ : ∃ W0, (w.alloc Z8).alloc (.cells #[.slice A l.length c] 42) = W0 := ⟨_, rfl⟩
  have b0 : W0.heap[w.heap.size]? = some Z8 := by rw [← hW0]; exact new1 _ _ _
  have b1 : W0.heap[w.heap.size + 1]? = some (.cells #[.slice A l.length c] 42 (0, 0)) := by rw [← hW0]; exact new2 _ _ _
  have bz : W0.heap.size = w.heap.size + 1 + 1 := by rw [← hW0]; simp
  have bB : Below w.heap.size w W0 := by rw [← hW0]; exact ((Below.refl _ _).alloc (Nat.le_refl _) _).alloc (by simp) _
  unfold Z8 at hW0
  rw [hW0]
  refine wpIn_range (base := w.heap.size) (T0 := fun _ => False) rfl (fun h => absurd h (by simp [Fence.wide])) (gf := 77) (lb := #[.pointer (some ⟨w.heap.size + 1, 0, none⟩)]) rfl trivial (enters_of Try.func77 (by kernel_rfl) rfl)
    (levels_iter _ w.heap.size (w.heap.size + 1) A c l W0 hl hs b1 (Kd.C_below hr bB)) (fun _ => rfl) ?hX
    (fun pre O W => O = (fun k => k = w.heap.size) ∧ W.heap[w.heap.size]? = some (outOf pre) ∧ Below w.heap.size w W)
    (fun _ _ _ _ => False) ?hI (fun _ _ _ _ _ h _ => h) (by omega) (fun _ h => h.elim) (fun k => k = w.heap.size) ?hO ?h0
    (fun x => { tmps := #[.slice A l.length c, undef, .string ⟨#[]⟩, .pointer (some ⟨w.heap.size, 0, none⟩), .int .i64 x.k, .slice (some ⟨x.g, 0, none⟩) x.r.length x.r.length, .slice A l.length c, .func (.func 77) #[] #[.pointer (some ⟨w.heap.size + 1, 0, none⟩)], .int .i64 x.k, .slice (some ⟨x.g, 0, none⟩) x.r.length x.r.length, undef, undef, undef, undef, undef, undef, undef, undef, undef, undef], defers := [] })
    ?assign ?body ?done ?stop
  case hX =>
    rintro pre x W L o o' ⟨h0, h1, h2⟩ hl ho
    refine ⟨h0, (World.putObj_heap_other ?_).trans h1, h2⟩
    rintro rfl
    rw [h1] at hl
    cases hl
    simp [Obj.isCells] at ho
  case hI =>
    rintro pre O W W' ⟨rfl, h1, h2⟩ hst
    exact ⟨rfl, hst.same h1 (fun h => h.2 rfl), h2.trans (hst.below (fun k h => h.1) h2.size)⟩
  case hO => rintro k rfl; exact ⟨Nat.le_refl _, fun h => h, by omega⟩
  case h0 => exact ⟨rfl, b0, bB⟩
  case assign =>
    intro L x W K hK
    simp only [Lv.encs]
    gi_wp2
    exact hK
  case body =>
    rintro L pre x O W ⟨rfl, h1, h2⟩ ⟨-, hx, hxs, -⟩ hO hsz
    obtain ⟨v0, v1, v2, v3, v4, v5, v6, v7, hov⟩ := outOf_form pre
    by_cases h01 : x.r.length = 1
    · have t1 : ((x.r.length : Int) == 1) = true := by simp [h01]
      obtain ⟨top, htop⟩ : ∃ top, x.r[0]? = some top := ⟨_, List.getElem?_eq_getElem (by omega)⟩
      have hst := hxs top (List.mem_of_getElem? htop)
      have hc0 : W.cell? ⟨x.g, 0, none⟩ = some (.string top) := by simp [World.cell?, hx, strs, htop]
      have hx0 : 0 < x.r.length := by omega
      have HO := Lib.hid (outOf_snoc pre x top h01 htop)
      have HT := Lib.hid h01
      rw [hov] at h1
      have H1 := Lib.hid h1
      have HX := Lib.hid hx
      clear htop h01 h1 hx hov
      gi_wp2_with (refine ⟨trivial, ?_⟩; gi_at_call 64; refine (CallsIn.inRound L (callsIn_wide.2 (rooted_any x.k top hst _))).mono ?_; rintro e w3 ⟨rfl, hB3⟩; have hZ1 := (hB3.block _ (lt_of_block H1.out)).trans H1.out; obtain ⟨m0, m1, m2, m3, m4, m5, m6, m7⟩ := cells8 hZ1; obtain ⟨q0, q1, q2, q3, q4, q5, q6, q7⟩ := free8 hZ1; have HZ1 := Lib.hid hZ1; clear hZ1; unfold sumV)
      have e8 := set_blk (set_blk (set_blk (set_blk (set_blk (set_blk (set_blk (set_blk HZ1.out 0 (.int .u8 (bb (rx x.k top) 16777216))) 1 (.int .u8 (bb (rx x.k top) 65536))) 2 (.int .u8 (bb (rx x.k top) 256))) 3 (.int .u8 (bb (rx x.k top) 1))) 4 (.int .u8 (bb (ry x.k top) 16777216))) 5 (.int .u8 (bb (ry x.k top) 65536))) 6 (.int .u8 (bb (ry x.k top) 256))) 7 (.int .u8 (bb (ry x.k top) 1))
      refine ⟨fun k => k = w.heap.size, ⟨rfl, ?_, ?_⟩, fun k h => .inl h, ?_, ?_⟩
      · rw [HO.out]
        refine e8.trans ?_
        simp [outV]
      · exact ((((((((h2.trans (hB3.mono h2.size)).setCell (p := ⟨_, 0, none⟩) (Nat.le_refl _) _).setCell (p := ⟨_, 1, none⟩) (Nat.le_refl _) _).setCell (p := ⟨_, 2, none⟩) (Nat.le_refl _) _).setCell (p := ⟨_, 3, none⟩) (Nat.le_refl _) _).setCell (p := ⟨_, 4, none⟩) (Nat.le_refl _) _).setCell (p := ⟨_, 5, none⟩) (Nat.le_refl _) _).setCell (p := ⟨_, 6, none⟩) (Nat.le_refl _) _).setCell (p := ⟨_, 7, none⟩) (Nat.le_refl _) _
      · intro k hk
        have := (hO k hk).2
        have := hB3.size
        simp [World.setCell]
        omega
      · exact ((((((((Step.of_below hB3 (fun k => k = w.heap.size)).setCell (p := ⟨_, 0, none⟩) (.inl rfl) _).setCell (p := ⟨_, 1, none⟩) (.inl rfl) _).setCell (p := ⟨_, 2, none⟩) (.inl rfl) _).setCell (p := ⟨_, 3, none⟩) (.inl rfl) _).setCell (p := ⟨_, 4, none⟩) (.inl rfl) _).setCell (p := ⟨_, 5, none⟩) (.inl rfl) _).setCell (p := ⟨_, 6, none⟩) (.inl rfl) _).setCell (p := ⟨_, 7, none⟩) (.inl rfl) _
    · have t1 : ((x.r.length : Int) == 1) = false := by simp; omega
      gi_wp2
      refine ⟨_, ⟨rfl, ?_, h2⟩, fun k h => .inl h, fun k h => (hO k h).2, Step.refl _ _⟩
      rw [outOf_no pre x h01]
      exact h1
  case done =>
    rintro D xs O W hD hS ⟨rfl, h1, h2⟩ hOD hK
    obtain ⟨h, hup, hlast⟩ := outOf_last l xs hS
    rw [hlast] at h1
    obtain ⟨m0, m1, m2, m3, m4, m5, m6, m7⟩ := cells8 h1
    have HL := Lib.hid hlast
    clear hlast hS h1
    gi_wp2_with (refine ⟨trivial, ?_⟩; gi_at_call 65; refine (callsIn_wide.2 (text_any (rx h ((lev (fill l (2 ^ h)) h).getD 0 ⟨#[]⟩)) (ry h ((lev (fill l (2 ^ h)) h).getD 0 ⟨#[]⟩)) _)).mono ?_; rintro e w3 ⟨rfl, hB3⟩)
    have hK3 := (hB3.block _ (lt_of_block hK)).trans hK
    refine ⟨by simp, .inl ⟨_, _, rfl, run_takeDeferred hK3, ?_⟩⟩
    refine ⟨_, results_tmp rfl _ _ _, h, hup, ?_, ?_⟩
    · rw [← root_eq]; rfl
    · have hz : w.heap.size ≤ D := by omega
      exact (h2.trans (hB3.mono h2.size)).trans ((Step.putObj _ _ _).below (fun k e => by subst e; exact hz) (Nat.le_trans h2.size hB3.size))
  case stop =>
    rintro D c pre O W hD hS h hOD hK
    exact h.elim
end Go.Proofs.Ytoolionhheiihaa.Dg

/- digest.Proof. -/
set_option linter.unusedVariables false
set_option linter.unusedSimpArgs false
namespace Go.Proofs.Ytoolionhheiihaa.Dg
open Go.RowKit Go.Proofs.YtoolionhheiihaaW.PrintWords Go.Proofs.Ytoolionhheiihaa.Rng
attribute [local go_sem] Oper.semAt_some
/-- The neighbour of element m of a level. -/
def nb (m : Nat) : Nat := m ^^^ 1
def pick (i : Nat) (x : Lv) : ByteArray := x.r.getD (nb (i / 2 ^ x.k)) ⟨#[]⟩
def col (i : Nat) (xs : List Lv) : List ByteArray := (xs.filter fun x => decide (1 < x.r.length)).map (pick i)
/-- What digest.Proof returns of element i. -/
def ProofL (l : List ByteArray) (h i : Nat) : List ByteArray := (List.range h).map fun k => (lev (fill l (2 ^ h)) k).getD (nb (i / 2 ^ k)) ⟨#[]⟩
set_option maxRecDepth 100000 in
set_option maxHeartbeats 400000 in
theorem Proof_no (A : Option Addr) (c : Nat) (l : List ByteArray) (i : Int) (w : World) (_hl : l.length ≤ 9223372036854775807) (h : i < 0 ∨ (l.length : Int) ≤ i) :
    Calls Try.prog 43 #[.slice A l.length c, .int .i64 i] w fun e w' => e = .returned (.slice none 0 0) ∧ Below w.heap.size w w' := by
  by_cases h3 : i < 0
  · have b3 : decide (i < 0) = true := by simp; omega
    go_enter Try.func43, Try.ntmps43
    go_wp2
    go_ret
    exact ⟨rfl, (Below.refl _ _).alloc (Nat.le_refl _) _⟩
  · have b3 : decide (i < 0) = false := by simp; omega
    have b4 : decide ((l.length : Int) ≤ i) = true := by simp; omega
    clear h
    go_enter Try.func43, Try.ntmps43
    go_wp2
    go_ret
    exact ⟨rfl, (Below.refl _ _).alloc (Nat.le_refl _) _⟩
theorem xor1 (i k : Nat) (h : i ≤ 9223372036854775807) : bits .xor .i64 ((i : Int) / 2 ^ k) 1 = ((nb (i / 2 ^ k) : Nat) : Int) := by
  have e : ((i : Int) / 2 ^ k) = ((i / 2 ^ k : Nat) : Int) := by simp
  have hle : i / 2 ^ k ≤ i := Nat.div_le_self _ _
  rw [e]
  have hx : (i / 2 ^ k) ^^^ 1 < 2 ^ 63 := Nat.xor_lt_two_pow (by omega) (by decide)
  have e1 : (i / 2 ^ k) % 18446744073709551616 = i / 2 ^ k := Nat.mod_eq_of_lt (by omega)
  have e2 : IntKind.i64.wrap (((i / 2 ^ k) ^^^ 1 : Nat) : Int) = (((i / 2 ^ k) ^^^ 1 : Nat) : Int) := by rw [IntKind.wrap_i64]; omega
  generalize i / 2 ^ k = m at *
  simp [bits, nb]
  rw [show m % 2 ^ IntKind.i64.bits = m from e1, show 1 % 2 ^ IntKind.i64.bits = 1 from rfl]
  exact e2
theorem nb_lt {i k h n : Nat} (hn : n = 2 ^ (h - k)) (h1 : 1 < n) (hi : i < 2 ^ h) (hk : k ≤ h) : nb (i / 2 ^ k) < n := by
  subst hn
  have hne : 1 ≤ h - k := by
    rcases Nat.lt_or_ge (h - k) 1 with h' | h'
    · have : h - k = 0 := by omega
      rw [this] at h1
      omega
    · exact h'
  refine Nat.xor_lt_two_pow ?_ ?_
  · rw [Nat.div_lt_iff_lt_mul (Nat.pow_pos (by omega)), ← Nat.pow_add]
    rwa [show h - k + k = h by omega]
  · exact Nat.lt_of_lt_of_le (by decide : 1 < 2 ^ 1) (Nat.pow_le_pow_right (by omega) hne)
theorem col_map (i : Nat) (xs : List Lv) : col i xs = (((xs.map fun x => (x.k, x.r)).filter fun p => decide (1 < p.2.length)).map fun p => p.2.getD (nb (i / 2 ^ p.1)) ⟨#[]⟩) := by
  induction xs with
  | nil => rfl
  | cons x xs ih =>
    unfold col at ih ⊢
    rw [List.map_cons]
    by_cases h : 1 < x.r.length
    · rw [List.filter_cons_of_pos (by simpa using h), List.filter_cons_of_pos (by simpa using h), List.map_cons, List.map_cons, ih]
      rfl
    · rw [List.filter_cons_of_neg (by simpa using h), List.filter_cons_of_neg (by simpa using h), ih]
theorem col_all (l : List ByteArray) (i : Nat) (xs : List Lv) (hS : LvS l xs) : ∃ h : Nat, Up l.length (2 ^ h) ∧ col i xs = ProofL l h i := by
  obtain ⟨h, hup, hm⟩ := hS
  refine ⟨h, hup, ?_⟩
  rw [col_map, hm, List.range_succ, List.map_append, List.filter_append, List.map_append]
  have e1 : (List.map (fun k => (k, lev (fill l (2 ^ h)) k)) [h]).filter (fun p => decide (1 < p.2.length)) = [] := by
    simp [lev_len l h hup.2.1 h (Nat.le_refl _)]
  have e2 : (List.map (fun k => (k, lev (fill l (2 ^ h)) k)) (List.range h)).filter (fun p => decide (1 < p.2.length)) = List.map (fun k => (k, lev (fill l (2 ^ h)) k)) (List.range h) := by
    rw [List.filter_eq_self]
    intro p hp
    simp only [List.mem_map, List.mem_range] at hp
    obtain ⟨k, hk, rfl⟩ := hp
    simp only [lev_len l h hup.2.1 k (by omega), decide_eq_true_eq]
    exact Nat.one_lt_two_pow (by omega)
  rw [e1, e2]
  simp [ProofL]
theorem col_snoc (i : Nat) (pre : List Lv) (x : Lv) (s : ByteArray) (h : 1 < x.r.length) (hs : x.r[nb (i / 2 ^ x.k)]? = some s) : col i (pre ++ [x]) = col i pre ++ [s] := by
  simp [col, h, pick, List.getD_eq_getElem?_getD, hs]
def own3 (b : Nat) (v : Value) (k : Nat) : Prop := k = b ∨ k = b + 1 ∨ some k = v.ownBlock
def PI (base i : Nat) (w : World) (pre : List Lv) (O : Nat → Prop) (W : World) : Prop :=
  ∃ v, O = own3 base v ∧ W.heap[base]? = some (.cells #[.int .i64 i] 3 (0, 0)) ∧ W.heap[base + 1]? = some (.cells #[v] 42 (0, 0)) ∧
    W.ownsRow (base + 2) 9 1 v (col i pre).length ((col i pre).map Value.string) ∧ Below base w W
theorem app_after {W w1 : World} {B : Nat} {v : Value} {n : Nat} {xs : List Value} {i : Int} {s : ByteArray} (h3 : W.ownsRow (B + 2) 9 1 v n xs)
    (h1 : W.heap[B]? = some (.cells #[.int .i64 i] 3 (0, 0))) (h2 : W.heap[B + 1]? = some (.cells #[v] 42 (0, 0))) (hg : (W.alloc (.cells #[.string s] 9)).drew.grownBy w1 v.ownBlock) :
    w1.heap[B]? = some (.cells #[.int .i64 i] 3 (0, 0)) ∧ w1.heap[B + 1]? = some (.cells #[v] 42 (0, 0)) := by
  have key : ∀ k o, k < B + 2 → W.heap[k]? = some o → w1.heap[k]? = some o := by
    intro k o hk ho
    have hlt := lt_of_block ho
    have hz : (W.alloc (.cells #[.string s] 9)).drew.heap.size = W.heap.size + 1 := by simp
    refine (hg.block k (by omega) (fun e => ?_)).trans ((Below.heap_alloc W _ k hlt).trans ho)
    have := own_base h3 k e.symm
    omega
  exact ⟨key _ _ (by omega) h1, key _ _ (by omega) h2⟩
theorem PI_step {W w w1 : World} {B i : Nat} {pre : List Lv} {x : Lv} {s : ByteArray} {v : Value} {g cap : Nat} (h3 : W.ownsRow (B + 2) 9 1 v (col i pre).length ((col i pre).map Value.string)) (h4 : Below B w W)
    (hO : ∀ k, own3 B v k → B ≤ k ∧ k < W.heap.size)
    (ho1 : w1.ownsRow (B + 2) 9 1 (.slice (some ⟨g, 0, none⟩) ((col i pre).length + 1) cap) ((col i pre).length + 1) ((col i pre).map Value.string ++ [.string s]))
    (hg : (W.alloc (.cells #[.string s] 9)).drew.grownBy w1 v.ownBlock) (hat : v.ownBlock = some g ∨ g = (W.alloc (.cells #[.string s] 9)).drew.heap.size) (hlt : g < w1.heap.size)
    (hcol : col i (pre ++ [x]) = col i pre ++ [s]) (n1 : w1.heap[B]? = some (.cells #[.int .i64 i] 3 (0, 0))) (n2 : w1.heap[B + 1]? = some (.cells #[v] 42 (0, 0))) :
    ∃ O', PI B i w (pre ++ [x]) O' (w1.setCell ⟨B + 1, 0, none⟩ (.slice (some ⟨g, 0, none⟩) ((col i pre).length + 1) cap)) ∧ (∀ k, O' k → own3 B v k ∨ W.heap.size ≤ k) ∧
      (∀ k, O' k → k < (w1.setCell ⟨B + 1, 0, none⟩ (.slice (some ⟨g, 0, none⟩) ((col i pre).length + 1) cap)).heap.size) ∧ Step (own3 B v) W (w1.setCell ⟨B + 1, 0, none⟩ (.slice (some ⟨g, 0, none⟩) ((col i pre).length + 1) cap)) := by
  have hgB : B + 2 ≤ g := own_base ho1 g (by simp [Value.ownBlock])
  have hst : Step (own3 B v) W (w1.setCell ⟨B + 1, 0, none⟩ (.slice (some ⟨g, 0, none⟩) ((col i pre).length + 1) cap)) :=
    (Step.grown (((Step.refl (own3 B v) W).alloc (.cells #[.string s] 9)).drew) hg (fun k e => .inl (.inr (.inr e.symm)))).setCell (p := ⟨B + 1, 0, none⟩) (.inl (.inr (.inl rfl))) _
  have hz : (w1.setCell ⟨B + 1, 0, none⟩ (.slice (some ⟨g, 0, none⟩) ((col i pre).length + 1) cap)).heap.size = w1.heap.size := by simp [World.setCell]
  have hBW := (hO (B + 1) (.inr (.inl rfl))).2
  have hs1 := hst.size
  refine ⟨own3 B (.slice (some ⟨g, 0, none⟩) ((col i pre).length + 1) cap), ⟨_, rfl, other_cell n1 (p := ⟨B + 1, 0, none⟩) (by simp) _, one_setCell n2, ?_, ?_⟩, ?_, ?_, hst⟩
  · rw [hcol, List.length_append, List.length_singleton, List.map_append]
    exact own_move ho1 (fun k hk => Below.heap_setCell w1 ⟨B + 1, 0, none⟩ _ k (by
      have : g = k := by simpa [Value.ownBlock] using hk
      show k ≠ B + 1
      omega))
  · exact h4.trans (hst.below (fun k hk => (hO k hk).1) (by omega))
  · rintro k (rfl | rfl | hk)
    · exact .inl (.inl rfl)
    · exact .inl (.inr (.inl rfl))
    · have : k = g := by simpa [Value.ownBlock] using hk
      subst this
      rcases hat with h | h
      · exact .inl (.inr (.inr h.symm))
      · right
        rw [h]
        simp
  · intro k hk
    rw [hz] at hs1 ⊢
    rcases hk with rfl | rfl | hk
    · omega
    · omega
    · have : k = g := by simpa [Value.ownBlock] using hk
      omega
set_option maxRecDepth 100000 in
set_option maxHeartbeats 1000000 in
theorem Proof_yes (A : Option Addr) (c : Nat) (l : List ByteArray) (i : Nat) (w : World) (hl : l.length ≤ 1099511627776) (hil : i < l.length) (hs : ∀ s ∈ l, s.size ≤ 9223372036854775807) (hr : Kd.C Kd.string w A l.length l) :
    Calls Try.prog 43 #[.slice A l.length c, .int .i64 i] w fun e w' => ∃ (h : Nat) (v : Value), Up l.length (2 ^ h) ∧ e = .returned v ∧ Kd.R Kd.string 9 w' w.heap.size (fun _ => True) v (ProofL l h i) ∧ Below w.heap.size w w' := by
  refine (callsIn_wide (n := 3)).1 ?_
  have b3 : decide ((i : Int) < 0) = false := by simp
  have b4 : decide ((l.length : Int) ≤ (i : Int)) = false := by simp; omega
  have b5 : decide (l.length ≤ i) = false := by simp; omega
  refine callsIn_of_wp_marks Try.func43 rfl trivial ?_ rfl
  simp only [Try.ntmps43, List.size_toArray, List.length_cons, List.length_nil, Nat.reduceAdd, Nat.reduceSub, Array.replicate_succ, Array.replicate_zero, List.push_toArray, List.append_toArray, List.nil_append, List.cons_append]
  gi_wp2_with (refine ⟨trivial, ?_⟩; gi_at_call 63; refine (callsIn_wide.2 (levels_any _ _ _ _)).mono ?_; rintro e w1 ⟨rfl, rfl⟩)
  clear b3 b4 b5
  obtain ⟨W0, hW0⟩ : ∃ W0, ((w.alloc (.cells #[.int .i64 i] 3)).alloc (.cells #[.slice none 0 0] 42)).alloc (.cells #[.slice A l.length c] 42) = W0 := ⟨_, rfl⟩
  obtain ⟨b0, b1, b2⟩ := three_new w (.cells #[.int .i64 i] 3) (.cells #[.slice none 0 0] 42) (.cells #[.slice A l.length c] 42)
  rw [hW0] at b0 b1 b2
  have bz : W0.heap.size = w.heap.size + 1 + 1 + 1 := by rw [← hW0]; simp
  have bB : Below w.heap.size w W0 := by rw [← hW0]; exact (((Below.refl _ _).alloc (Nat.le_refl _) _).alloc (by simp) _).alloc (by simp; omega) _
  rw [hW0]
  obtain ⟨B, hB⟩ : ∃ B, B = w.heap.size := ⟨_, rfl⟩
  rw [← hB] at b0 b1 b2 bz bB ⊢
  have HB := Lib.hid hB
  clear hB
  refine wpIn_range (encs := Lv.encs) (X := Lv.X l) (S := LvS l) (Sp := fun _ => True) (base := B) (T0 := fun k => k = B + 1 + 1) rfl (fun h => absurd h (by simp [Fence.wide])) (gf := 77) (lb := #[.pointer (some ⟨B + 1 + 1, 0, none⟩)]) rfl trivial (enters_of Try.func77 (by kernel_rfl) rfl)
    ?hseq (fun _ => rfl) ?hX (PI B i w) (fun _ _ _ _ => False) ?hI (fun _ _ _ _ _ h _ => h) (by omega) ?hT0 (own3 B (.slice none 0 0)) ?hO ?h0
    (fun x => { tmps := #[.slice A l.length c, .int .i64 i, undef, .pointer (some ⟨B, 0, none⟩), .slice none 0 0, .pointer (some ⟨B + 1, 0, none⟩), .int .i64 x.k, .slice (some ⟨x.g, 0, none⟩) x.r.length x.r.length, .int .i64 i, .bool false, .bool false, .int .i64 i, .slice A l.length c, .int .i64 l.length, .bool false, .bool false, .slice A l.length c, .func (.func 77) #[] #[.pointer (some ⟨B + 1 + 1, 0, none⟩)], .int .i64 x.k, .slice (some ⟨x.g, 0, none⟩) x.r.length x.r.length, undef, undef, undef, undef, undef, undef, undef, undef, undef, undef, undef, undef, undef, undef], defers := [] })
    ?assign ?body ?done ?stop
  case hseq => exact (levels_iter _ B (B + 1 + 1) A c l W0 hl hs b2 (Kd.C_below hr (by rw [← HB.out]; exact bB))).wider
  case hX =>
    rintro pre x W L o o' ⟨h0, h1, h2⟩ hl ho
    refine ⟨h0, (World.putObj_heap_other ?_).trans h1, h2⟩
    rintro rfl
    rw [h1] at hl
    cases hl
    simp [Obj.isCells] at ho
  case hI =>
    rintro pre O W W' ⟨v, rfl, h1, h2, h3, h4⟩ hst
    refine ⟨v, rfl, hst.same h1 (fun h => h.2 (.inl rfl)), hst.same h2 (fun h => h.2 (.inr (.inl rfl))), ?_, h4.trans (hst.below (fun k h => h.1) (Nat.le_trans (Nat.le_of_eq HB.out) h4.size))⟩
    exact own_move h3 (fun k hk => hst.1.2 k (own_lt h3 k hk) (fun h => h.2 (.inr (.inr hk.symm))))
  case hT0 => rintro k rfl; omega
  case hO =>
    rintro k (rfl | rfl | h)
    · exact ⟨Nat.le_refl _, by omega, by omega⟩
    · exact ⟨by omega, by omega, by omega⟩
    · simp [Value.ownBlock] at h
  case h0 => exact ⟨_, rfl, b0, b1, own_nil _ _ _ _, bB⟩
  case assign =>
    intro L x W K hK
    simp only [Lv.encs]
    gi_wp2
    exact hK
  case body =>
    rintro L pre x O W ⟨v, rfl, h1, h2, h3, h4⟩ ⟨hxk, hx, hxs, h, hup, hkh, hxr⟩ hO hsz
    by_cases h01 : 1 < x.r.length
    · have t1 : decide (1 < x.r.length) = true := by simpa using h01
      have t2 : decide ((1 : Int) < (x.r.length : Int)) = true := by simp; omega
      have hxl : x.r.length = 2 ^ (h - x.k) := by rw [hxr]; exact lev_len l h hup.2.1 x.k hkh
      have hmx : nb (i / 2 ^ x.k) < x.r.length := nb_lt hxl h01 (Nat.lt_of_lt_of_le hil hup.2.1) hkh
      obtain ⟨s, hs0⟩ : ∃ s, x.r[nb (i / 2 ^ x.k)]? = some s := ⟨_, List.getElem?_eq_getElem hmx⟩
      have hcol := col_snoc i pre x s h01 hs0
      have c1 : W.cell? ⟨B, 0, none⟩ = some (.int .i64 i) := cell_of_one h1
      have c2 : W.cell? ⟨B + 1, 0, none⟩ = some v := cell_of_one h2
      have f2 : W.frozen? ⟨B + 1, 0, none⟩ = false := free_of_one h2
      have c3 : W.cell? ⟨x.g, nb (i / 2 ^ x.k), none⟩ = some (.string s) := by simp [World.cell?, hx, strs, hs0]
      have hxor : bits .xor .i64 ((i : Int) / 2 ^ x.k) 1 = ((nb (i / 2 ^ x.k) : Nat) : Int) := xor1 _ _ (by omega)
      have hh41 : h < 42 := by
        have h1 : h < 2 ^ h := Nat.lt_two_pow_self
        have h2 : 2 ^ h ≤ 2 * 1099511627776 := by rcases hup.2.2 with e | e <;> omega
        rcases Nat.lt_or_ge h 42 with h' | h'
        · exact h'
        · have := Nat.pow_le_pow_right (n := 2) (by omega) h'
          omega
      have hmin : min x.k 64 = x.k := by omega
      have hix : 0 ≤ ((nb (i / 2 ^ x.k) : Nat) : Int) ∧ ((nb (i / 2 ^ x.k) : Nat) : Int) < (x.r.length : Int) := by omega
      generalize nb (i / 2 ^ x.k) = m at *
      have hBW : B + 1 < W.heap.size := lt_of_block h2
      have hcl : (col i pre).length ≤ 42 := by
        have : (col i pre).length ≤ pre.length := by simp only [col, List.length_map]; exact List.length_filter_le _ _
        omega
      have hb1 : (col i pre).length + 1 ≤ maxLen := by unfold maxLen; omega
      have hb2 : ((col i pre).length + 1) * 16 ≤ 140737488355328 := by omega
      have hinfo : (Try.prog.info? 9).map (fun i => (i.zero, i.size, i.bytes)) = some (some (.string ⟨#[]⟩), 1, 16) := by kernel_rfl
      have HXK := Lib.hid hxk
      clear hxk
      have HCOL := Lib.hid hcol
      have H1 := Lib.hid h1
      have H2 := Lib.hid h2
      have HX := Lib.hid hx
      clear hcol h1 h2 hx hxl hxr hs0
      gi_wp2_with fail
      refine region_round (by kernel_rfl) (by kernel_rfl) ?_
      refine wpAnyIn_take (i := 1) (v := ?_) rfl rfl (by kernel_rfl) (by kernel_rfl) (by kernel_rfl) (fun _ _ _ h => h) ⟨Or.inl ⟨by rfl, ?_⟩, fun _ => rfl⟩ ?_
      rotate_left
      · intro w; go_simp; try with_reducible rfl
      refine wpAnyIn_take (i := 3) (v := ?_) rfl rfl (by kernel_rfl) (by kernel_rfl) (by kernel_rfl) (fun _ _ _ h => h) ⟨Or.inl ⟨by rfl, ?_⟩, fun _ => rfl⟩ ?_
      rotate_left
      · intro w; go_simp; try with_reducible rfl
      refine wpAnyIn_ready (rs := [0, 2]) (by kernel_rfl) (by simp) ?_
      refine AllReadyIn.cons rfl (fun K hK => ?_) ?_
      · go_simp
        refine hK _ _ ?_
        clear hK K
        refine wpAnyIn_ready (rs := [2]) (by kernel_rfl) (by simp) ?_
        refine AllReadyIn.cons rfl (fun K hK => ?_) ?_
        · go_simp
          refine hK _ _ ?_
          clear hK K
          refine wpAnyIn_take (i := 4) (v := ?_) rfl rfl (by kernel_rfl) (by kernel_rfl) (by kernel_rfl) (fun _ _ _ h => h) ⟨Or.inl ⟨by rfl, ?_⟩, fun _ => rfl⟩ ?_
          rotate_left
          · intro w; go_simp; try with_reducible rfl
          refine wpAnyIn_take (i := 5) (v := ?_) rfl rfl (by kernel_rfl) (by kernel_rfl) (by kernel_rfl) (fun _ _ _ h => h) ⟨Or.inl ⟨by rfl, ?_⟩, fun _ => rfl⟩ ?_
          rotate_left
          · intro w; go_simp; try with_reducible rfl
          refine wpAnyIn_take (i := 6) (v := ?_) rfl rfl (by kernel_rfl) (by kernel_rfl) (by kernel_rfl) (fun _ _ _ h => h) ⟨Or.inl ⟨by rfl, ?_⟩, fun _ => rfl⟩ ?_
          rotate_left
          · intro w; go_simp; try with_reducible rfl
          refine wpAnyIn_ready (rs := [7]) (by kernel_rfl) (by simp) ?_
          refine AllReadyIn.cons rfl (fun K hK => ?_) ?_
          · go_simp
            refine hK _ _ ?_
            clear hK K
            refine wpAnyIn_ready (rs := [8]) (by kernel_rfl) (by simp) ?_
            refine AllReadyIn.cons rfl (fun K hK => ?_) ?_
            · go_simp
              refine hK _ _ ?_
              clear hK K
              refine wpAnyIn_ready (rs := [9]) (by kernel_rfl) (by simp) ?_
              refine AllReadyIn.cons rfl (fun K hK => ?_) ?_
              · refine stepIn_append rfl (.tmp 23) (.tmp 31) 42 rfl (B + 2) 9 (.string ⟨#[]⟩) 16 Try.underlying42 hinfo rfl v _ _ rfl (by exact h3.alloc _) W.heap.size (.string s) rfl (by exact heap_alloc_new W _) rfl hb1 hb2 (by simp; omega) ?_
                intro g cap w1 ho1 hg1 hat hlt1
                have hA1 := app_after h3 H1.out H2.out hg1 (s := s)
                obtain ⟨n1, n2⟩ := hA1
                have d2 : w1.cell? ⟨B + 1, 0, none⟩ = some v := cell_of_one n2
                have e2 : w1.frozen? ⟨B + 1, 0, none⟩ = false := free_of_one n2
                have N1 := Lib.hid n1
                have N2 := Lib.hid n2
                clear n1 n2
                refine hK _ _ ?_
                clear hK K
                refine wpAnyIn_ready (rs := [10]) (by kernel_rfl) (by simp) ?_
                refine AllReadyIn.cons rfl (fun K hK => ?_) ?_
                · go_simp
                  refine hK _ _ ?_
                  clear hK K
                  refine wpAnyIn_done (by kernel_rfl) ?_ _
                  gi_wp2
                  exact PI_step h3 h4 hO ho1 hg1 hat hlt1 HCOL.out N1.out N2.out
                exact AllReadyIn.nil
              exact AllReadyIn.nil
            exact AllReadyIn.nil
          exact AllReadyIn.nil
        exact AllReadyIn.nil
      refine AllReadyIn.cons rfl (fun K hK => ?_) ?_
      · go_simp
        refine hK _ _ ?_
        clear hK K
        refine wpAnyIn_take (i := 4) (v := ?_) rfl rfl (by kernel_rfl) (by kernel_rfl) (by kernel_rfl) (fun _ _ _ h => h) ⟨Or.inl ⟨by rfl, ?_⟩, fun _ => rfl⟩ ?_
        rotate_left
        · intro w; go_simp; try with_reducible rfl
        refine wpAnyIn_take (i := 5) (v := ?_) rfl rfl (by kernel_rfl) (by kernel_rfl) (by kernel_rfl) (fun _ _ _ h => h) ⟨Or.inl ⟨by rfl, ?_⟩, fun _ => rfl⟩ ?_
        rotate_left
        · intro w; go_simp; try with_reducible rfl
        refine wpAnyIn_take (i := 6) (v := ?_) rfl rfl (by kernel_rfl) (by kernel_rfl) (by kernel_rfl) (fun _ _ _ h => h) ⟨Or.inl ⟨by rfl, ?_⟩, fun _ => rfl⟩ ?_
        rotate_left
        · intro w; go_simp; try with_reducible rfl
        refine wpAnyIn_ready (rs := [0, 7]) (by kernel_rfl) (by simp) ?_
        refine AllReadyIn.cons rfl (fun K hK => ?_) ?_
        · go_simp
          refine hK _ _ ?_
          clear hK K
          refine wpAnyIn_ready (rs := [7]) (by kernel_rfl) (by simp) ?_
          refine AllReadyIn.cons rfl (fun K hK => ?_) ?_
          · go_simp
            refine hK _ _ ?_
            clear hK K
            refine wpAnyIn_ready (rs := [8]) (by kernel_rfl) (by simp) ?_
            refine AllReadyIn.cons rfl (fun K hK => ?_) ?_
            · go_simp
              refine hK _ _ ?_
              clear hK K
              refine wpAnyIn_ready (rs := [9]) (by kernel_rfl) (by simp) ?_
              refine AllReadyIn.cons rfl (fun K hK => ?_) ?_
              · refine stepIn_append rfl (.tmp 23) (.tmp 31) 42 rfl (B + 2) 9 (.string ⟨#[]⟩) 16 Try.underlying42 hinfo rfl v _ _ rfl (by exact h3.alloc _) W.heap.size (.string s) rfl (by exact heap_alloc_new W _) rfl hb1 hb2 (by simp; omega) ?_
                intro g cap w1 ho1 hg1 hat hlt1
                have hA1 := app_after h3 H1.out H2.out hg1 (s := s)
                obtain ⟨n1, n2⟩ := hA1
                have d2 : w1.cell? ⟨B + 1, 0, none⟩ = some v := cell_of_one n2
                have e2 : w1.frozen? ⟨B + 1, 0, none⟩ = false := free_of_one n2
                have N1 := Lib.hid n1
                have N2 := Lib.hid n2
                clear n1 n2
                refine hK _ _ ?_
                clear hK K
                refine wpAnyIn_ready (rs := [10]) (by kernel_rfl) (by simp) ?_
                refine AllReadyIn.cons rfl (fun K hK => ?_) ?_
                · go_simp
                  refine hK _ _ ?_
                  clear hK K
                  refine wpAnyIn_done (by kernel_rfl) ?_ _
                  gi_wp2
                  exact PI_step h3 h4 hO ho1 hg1 hat hlt1 HCOL.out N1.out N2.out
                exact AllReadyIn.nil
              exact AllReadyIn.nil
            exact AllReadyIn.nil
          exact AllReadyIn.nil
        refine AllReadyIn.cons rfl (fun K hK => ?_) ?_
        · go_simp
          refine hK _ _ ?_
          clear hK K
          refine wpAnyIn_ready (rs := [0, 8]) (by kernel_rfl) (by simp) ?_
          refine AllReadyIn.cons rfl (fun K hK => ?_) ?_
          · go_simp
            refine hK _ _ ?_
            clear hK K
            refine wpAnyIn_ready (rs := [8]) (by kernel_rfl) (by simp) ?_
            refine AllReadyIn.cons rfl (fun K hK => ?_) ?_
            · go_simp
              refine hK _ _ ?_
              clear hK K
              refine wpAnyIn_ready (rs := [9]) (by kernel_rfl) (by simp) ?_
              refine AllReadyIn.cons rfl (fun K hK => ?_) ?_
              · refine stepIn_append rfl (.tmp 23) (.tmp 31) 42 rfl (B + 2) 9 (.string ⟨#[]⟩) 16 Try.underlying42 hinfo rfl v _ _ rfl (by exact h3.alloc _) W.heap.size (.string s) rfl (by exact heap_alloc_new W _) rfl hb1 hb2 (by simp; omega) ?_
                intro g cap w1 ho1 hg1 hat hlt1
                have hA1 := app_after h3 H1.out H2.out hg1 (s := s)
                obtain ⟨n1, n2⟩ := hA1
                have d2 : w1.cell? ⟨B + 1, 0, none⟩ = some v := cell_of_one n2
                have e2 : w1.frozen? ⟨B + 1, 0, none⟩ = false := free_of_one n2
                have N1 := Lib.hid n1
                have N2 := Lib.hid n2
                clear n1 n2
                refine hK _ _ ?_
                clear hK K
                refine wpAnyIn_ready (rs := [10]) (by kernel_rfl) (by simp) ?_
                refine AllReadyIn.cons rfl (fun K hK => ?_) ?_
                · go_simp
                  refine hK _ _ ?_
                  clear hK K
                  refine wpAnyIn_done (by kernel_rfl) ?_ _
                  gi_wp2
                  exact PI_step h3 h4 hO ho1 hg1 hat hlt1 HCOL.out N1.out N2.out
                exact AllReadyIn.nil
              exact AllReadyIn.nil
            exact AllReadyIn.nil
          refine AllReadyIn.cons rfl (fun K hK => ?_) ?_
          · go_simp
            refine hK _ _ ?_
            clear hK K
            refine wpAnyIn_ready (rs := [0]) (by kernel_rfl) (by simp) ?_
            refine AllReadyIn.cons rfl (fun K hK => ?_) ?_
            · go_simp
              refine hK _ _ ?_
              clear hK K
              refine wpAnyIn_ready (rs := [9]) (by kernel_rfl) (by simp) ?_
              refine AllReadyIn.cons rfl (fun K hK => ?_) ?_
              · refine stepIn_append rfl (.tmp 23) (.tmp 31) 42 rfl (B + 2) 9 (.string ⟨#[]⟩) 16 Try.underlying42 hinfo rfl v _ _ rfl (by exact h3.alloc _) W.heap.size (.string s) rfl (by exact heap_alloc_new W _) rfl hb1 hb2 (by simp; omega) ?_
                intro g cap w1 ho1 hg1 hat hlt1
                have hA1 := app_after h3 H1.out H2.out hg1 (s := s)
                obtain ⟨n1, n2⟩ := hA1
                have d2 : w1.cell? ⟨B + 1, 0, none⟩ = some v := cell_of_one n2
                have e2 : w1.frozen? ⟨B + 1, 0, none⟩ = false := free_of_one n2
                have N1 := Lib.hid n1
                have N2 := Lib.hid n2
                clear n1 n2
                refine hK _ _ ?_
                clear hK K
                refine wpAnyIn_ready (rs := [10]) (by kernel_rfl) (by simp) ?_
                refine AllReadyIn.cons rfl (fun K hK => ?_) ?_
                · go_simp
                  refine hK _ _ ?_
                  clear hK K
                  refine wpAnyIn_done (by kernel_rfl) ?_ _
                  gi_wp2
                  exact PI_step h3 h4 hO ho1 hg1 hat hlt1 HCOL.out N1.out N2.out
                exact AllReadyIn.nil
              exact AllReadyIn.nil
            exact AllReadyIn.nil
          exact AllReadyIn.nil
        exact AllReadyIn.nil
      exact AllReadyIn.nil
    · have t1 : decide (1 < x.r.length) = false := by simpa using h01
      have t2 : decide ((1 : Int) < (x.r.length : Int)) = false := by simp; omega
      have e : col i (pre ++ [x]) = col i pre := by simp [col, h01]
      have E := Lib.hid e
      have HXK := Lib.hid hxk
      have HXR := Lib.hid hxr
      clear hxk hxr e
      gi_wp2
      exact ⟨own3 B v, ⟨v, rfl, h1, h2, by rw [E.out]; exact h3, h4⟩, fun k h => .inl h, fun k h => (hO k h).2, Step.refl _ _⟩
  case done =>
    rintro D xs O W hD hS ⟨v, rfl, h1, h2, h3, h4⟩ hOD hK
    obtain ⟨h, hup, hcol⟩ := col_all l i xs hS
    have c2 : W.cell? ⟨B + 1, 0, none⟩ = some v := cell_of_one h2
    have HS := Lib.hid hS
    have HC := Lib.hid hcol
    clear hS hcol
    gi_wp2
    have hBw : B ≤ w.heap.size := Nat.le_of_eq HB.out
    refine ⟨by simp, .inl ⟨_, _, rfl, run_takeDeferred hK, ?_⟩⟩
    have h3' : W.ownsRow w.heap.size 9 1 v (col i xs).length ((col i xs).map Value.string) := by
      obtain ⟨a1, a2⟩ := h3
      refine ⟨a1, a2.elim .inl (fun ⟨g, cap, cur, e1, e2, e3⟩ => .inr ⟨g, cap, cur, e1, ?_, e3⟩)⟩
      have := HB.out
      omega
    have hb : Below w.heap.size w (W.putObj D (.deferred none)) := (h4.mono (Nat.le_of_eq HB.out.symm)).trans ((Step.putObj _ _ _).below (fun k e => by subst e; have := HB.out; omega) h4.size)
    refine ⟨_, results_tmp rfl _ _ _, h, v, hup, rfl, ?_, hb⟩
    rw [← HC.out]
    refine Kd.R_of_own (own_move h3' (fun k hk => World.putObj_heap_other (fun e => ?_))) (fun _ _ => trivial)
    subst e
    exact hOD (.inr (.inr hk.symm))
  case stop =>
    rintro D c pre O W hD hS h hOD hK
    exact h.elim
end Go.Proofs.Ytoolionhheiihaa.Dg

/- The contracts of package digest, in the printer's form. -/
set_option linter.unusedVariables false
set_option linter.unusedSimpArgs false
namespace Go.Proofs.Ytoolionhheiihaa.Gv
open Go.RowKit Go.Proofs.YtoolionhheiihaaW.PrintWords Go.Proofs.Ytoolionhheiihaa.Dg
/-- The height of the tree of n elements. -/
def hof (n : Nat) : Nat := if n ≤ 1 then 0 else Nat.log2 (n - 1) + 1
theorem up_hof (n : Nat) : Up n (2 ^ hof n) := by
  unfold hof
  by_cases h : n ≤ 1
  · rw [if_pos h]; exact ⟨⟨0, rfl⟩, by simpa using h, .inl rfl⟩
  · rw [if_neg h]
    have h1 : n - 1 < 2 ^ (Nat.log2 (n - 1) + 1) := Nat.lt_log2_self
    have h2 : 2 ^ Nat.log2 (n - 1) ≤ n - 1 := Nat.log2_self_le (by omega)
    refine ⟨⟨_, rfl⟩, by omega, .inr ?_⟩
    rw [Nat.pow_succ]
    omega
theorem up_unique {n a b : Nat} (ha : Up n (2 ^ a)) (hb : Up n (2 ^ b)) : a = b := by
  have key : ∀ a b : Nat, Up n (2 ^ a) → Up n (2 ^ b) → ¬ a < b := by
    intro a b ha hb hlt
    have h1 : 2 ^ (a + 1) ≤ 2 ^ b := Nat.pow_le_pow_right (by omega) hlt
    rw [Nat.pow_succ] at h1
    have h0 : 0 < 2 ^ a := Nat.pow_pos (by omega)
    rcases hb.2.2 with h | h
    · omega
    · have := ha.2.1; omega
  rcases Nat.lt_trichotomy a b with h | h | h
  · exact (key a b ha hb h).elim
  · exact h
  · exact (key b a hb ha h).elim
def small (l : List ByteArray) : Bool := l.all fun s => decide (s.size ≤ 9223372036854775807)
theorem small_mem {l : List ByteArray} (h : small l = true) : ∀ s ∈ l, s.size ≤ 9223372036854775807 := fun s hs => by simpa using List.all_eq_true.1 h s hs
def digest_Of.f (a0 : ByteArray) : Option ByteArray := if a0.size ≤ 9223372036854775807 then some (OfB a0) else none
theorem digest_Of.calls (a0 : ByteArray) (r : ByteArray) (w : World) (h : digest_Of.f a0 = some r) :
    Calls Try.prog 47 #[.string a0] w fun e w' => e = .returned (.string r) ∧ Below w.heap.size w w' := by
  unfold digest_Of.f at h
  by_cases c : a0.size ≤ 9223372036854775807
  · rw [if_pos c] at h
    injection h with h
    subst h
    exact Of_any a0 c w
  · rw [if_neg c] at h; cases h
/-- The root of a list. -/
def RootF (l : List ByteArray) : ByteArray := RootB (hof l.length) ((lev (fill l (2 ^ hof l.length)) (hof l.length)).getD 0 ⟨#[]⟩)
def digest_Root.f (l0 : List ByteArray) : Option ByteArray := if l0.length ≤ 1099511627776 ∧ small l0 = true then some (RootF l0) else none
theorem digest_Root.calls (A0 : Option Addr) (c0 : Nat) (l0 : List ByteArray) (r : ByteArray) (w : World) (hr0 : Kd.C Kd.string w A0 l0.length l0) (hc0 : l0.length ≤ c0) (h : digest_Root.f l0 = some r) :
    Calls Try.prog 34 #[.slice A0 l0.length c0] w fun e w' => e = .returned (.string r) ∧ Below w.heap.size w w' := by
  unfold digest_Root.f at h
  by_cases c : l0.length ≤ 1099511627776 ∧ small l0 = true
  · rw [if_pos c] at h
    injection h with h
    subst h
    refine (Root_any A0 c0 l0 w c.1 (small_mem c.2) hr0).mono ?_
    rintro e w' ⟨hh, hup, rfl, hb⟩
    obtain rfl := up_unique hup (up_hof _)
    exact ⟨rfl, hb⟩
  · rw [if_neg c] at h; cases h
/-- The proof of an element. -/
def ProofF (l : List ByteArray) (i : Int) : List ByteArray := if i < 0 ∨ (l.length : Int) ≤ i then [] else ProofL l (hof l.length) i.toNat
def digest_Proof.f (l0 : List ByteArray) (a1 : Int) : Option (List ByteArray) := if l0.length ≤ 1099511627776 ∧ small l0 = true then some (ProofF l0 a1) else none
theorem digest_Proof.calls (A0 : Option Addr) (c0 : Nat) (l0 : List ByteArray) (a1 : Int) (r : List ByteArray) (w : World) (hr0 : Kd.C Kd.string w A0 l0.length l0) (hc0 : l0.length ≤ c0) (h : digest_Proof.f l0 a1 = some r) :
    Calls Try.prog 43 #[.slice A0 l0.length c0, .int .i64 a1] w fun e w' => ∃ v0_ : Value, e = .returned (v0_) ∧ Kd.R Kd.string 9 w' w.heap.size (fun _ => True) v0_ r ∧ Below w.heap.size w w' := by
  unfold digest_Proof.f at h
  by_cases c : l0.length ≤ 1099511627776 ∧ small l0 = true
  · rw [if_pos c] at h
    injection h with h
    subst h
    unfold ProofF
    by_cases hi : a1 < 0 ∨ (l0.length : Int) ≤ a1
    · rw [if_pos hi]
      refine (Proof_no A0 c0 l0 a1 w (by omega) hi).mono ?_
      rintro e w' ⟨rfl, hb⟩
      exact ⟨_, rfl, Kd.R_nil _ _ _ _ _, hb⟩
    · rw [if_neg hi]
      obtain ⟨i, rfl⟩ : ∃ i : Nat, a1 = i := ⟨a1.toNat, by omega⟩
      refine (Proof_yes A0 c0 l0 i w c.1 (by omega) (small_mem c.2) hr0).mono ?_
      rintro e w' ⟨hh, v, hup, rfl, hR, hb⟩
      obtain rfl := up_unique hup (up_hof _)
      exact ⟨v, rfl, hR, hb⟩
  · rw [if_neg c] at h; cases h
/-- Is a proof right? -/
def VerifyF (root leaf : ByteArray) (i : Int) (l : List ByteArray) : Bool :=
  if root.size = 8 ∧ l.length ≤ 20 ∧ 0 ≤ i ∧ i / 2 ^ l.length = 0 then decide (root = RootB l.length (vf leaf i l).1) else false
def digest_Verify.f (a0 a1 : ByteArray) (a2 : Int) (l3 : List ByteArray) : Option Bool := if a1.size ≤ 9223372036854775807 ∧ a2 ≤ 9223372036854775807 ∧ small l3 = true then some (VerifyF a0 a1 a2 l3) else none
theorem digest_Verify.calls (a0 a1 : ByteArray) (a2 : Int) (A3 : Option Addr) (c3 : Nat) (l3 : List ByteArray) (r : Bool) (w : World) (hr3 : Kd.C Kd.string w A3 l3.length l3) (hc3 : l3.length ≤ c3) (h : digest_Verify.f a0 a1 a2 l3 = some r) :
    Calls Try.prog 46 #[.string a0, .string a1, .int .i64 a2, .slice A3 l3.length c3] w fun e w' => e = .returned (.bool r) ∧ Below w.heap.size w w' := by
  unfold digest_Verify.f at h
  by_cases c : a1.size ≤ 9223372036854775807 ∧ a2 ≤ 9223372036854775807 ∧ small l3 = true
  · rw [if_pos c] at h
    injection h with h
    subst h
    unfold VerifyF
    by_cases hv : a0.size = 8 ∧ l3.length ≤ 20 ∧ 0 ≤ a2 ∧ a2 / 2 ^ l3.length = 0
    · rw [if_pos hv]
      exact Verify_yes a0 a1 a2 A3 c3 l3 w hv.1 hv.2.1 hv.2.2.1 c.2.1 hv.2.2.2 c.1 hr3 (small_mem c.2.2)
    · rw [if_neg hv]
      refine (Verify_no a0 a1 a2 A3 c3 l3 w hr3.2.1 (by omega)).mono ?_
      rintro e w' ⟨rfl, rfl⟩
      exact ⟨rfl, Below.refl _ _⟩
  · rw [if_neg c] at h; cases h
end Go.Proofs.Ytoolionhheiihaa.Gv

