/- Several texts of this claim, one behind the other: AtA, RngA, RngC, RngD, AtB, AtC, AtD, RngE, AtE, RngF, AtF. -/
import Derived.Test.YtoleencecfjcjaaMgP
import Derived.RangeFuncCalls
import Derived.RangeFuncLeaves
import Derived.RangeFuncRecord
import Derived.Shelf.Abstract
import Derived.OrdersIn
import Derived.Test.YtoleencecfjcjaaChecked
import Derived.OwnWalkIn
import Derived.LoopIn
import Derived.Lib.Hide
import Derived.Scope
/- The atlas, plain: bitmaps, rectangles, entries in the order of use. No program in it. -/
set_option linter.unusedVariables false
set_option linter.unusedSimpArgs false
namespace Go.Proofs.Ytoleencecfjcjaa.At
structure Bm where
  l : Int
  t : Int
  w : Int
  h : Int
  rows : List Int
structure Rc where
  x : Int
  y : Int
  w : Int
  h : Int
structure En where
  nm : ByteArray
  b : Bm
  r : Rc
def b0 : Bm := ⟨0, 0, 0, 0, []⟩
def r0 : Rc := ⟨0, 0, 0, 0⟩
def sameB (a b : Bm) : Bool := (a.l == b.l) && ((a.t == b.t) && ((a.w == b.w) && ((a.h == b.h) && decide (a.rows = b.rows))))
theorem sameB_iff (a b : Bm) : sameB a b = true ↔ a = b := by
  cases a
  cases b
  simp [sameB]
def rowOk (w r : Int) : Bool := decide (r < 2 ^ w.toNat)
def dimsOk (b : Bm) : Bool := decide (1 ≤ b.w ∧ b.w ≤ 64 ∧ 1 ≤ b.h ∧ b.h ≤ 64 ∧ (b.rows.length : Int) = b.h ∧ -10000 ≤ b.l ∧ b.l ≤ 10001 - b.w ∧ -10000 ≤ b.t ∧ b.t ≤ 10001 - b.h)
def rightB (b : Bm) : Bool := sameB b b0 || (dimsOk b && b.rows.all (rowOk b.w))
/-- Two rectangles have a pixel in common. -/
def over (a b : Rc) : Bool := decide (a.x < b.x + b.w ∧ b.x < a.x + a.w ∧ a.y < b.y + b.h ∧ b.y < a.y + a.h)
theorem over_comm (a b : Rc) : over a b = over b a := by
  unfold over
  congr 1
  exact propext ⟨fun ⟨h1, h2, h3, h4⟩ => ⟨h2, h1, h4, h3⟩, fun ⟨h1, h2, h3, h4⟩ => ⟨h2, h1, h4, h3⟩⟩
def free (L : List En) (c : Rc) : Bool := L.all (fun e => !over c e.r)
def rowP (L : List En) (w h y : Int) : Nat → Int → Option Rc
  | 0, _ => none
  | n + 1, x => if free L ⟨x, y, w, h⟩ then some ⟨x, y, w, h⟩ else rowP L w h y n (x + 1)
def colP (L : List En) (W w h : Int) : Nat → Int → Option Rc
  | 0, _ => none
  | n + 1, y => (rowP L w h y (W - w + 1).toNat 0).or (colP L W w h n (y + 1))
/-- The first place. -/
def placeP (L : List En) (W H w h : Int) : Option Rc := colP L W w h (H - h + 1).toNat 0
/-- What is removed, what stays, and where the new one lies. -/
def fitL (W H w h : Int) : List En → List ByteArray × List En × Rc
  | [] => ([], [], ⟨0, 0, w, h⟩)
  | e :: L => match placeP (e :: L) W H w h with
    | some c => ([], e :: L, c)
    | none => (e.nm :: (fitL W H w h L).1, (fitL W H w h L).2)
def nmEq (a b : ByteArray) : Bool := a.toList == b.toList
def getP (L : List En) (nm : ByteArray) : Option En := L.find? (fun e => nmEq e.nm nm)
def useP (L : List En) (nm : ByteArray) : List En := L.filter (fun x => !nmEq x.nm nm) ++ (getP L nm).toList
def addP (W H : Int) (L : List En) (nm : ByteArray) (b : Bm) : List ByteArray × Int × List En :=
  if W < b.w ∨ H < b.h then ([], 50, L) else
  if b.w = 0 then ([], 0, L ++ [⟨nm, b, r0⟩]) else
  ((fitL W H b.w b.h L).1, 0, (fitL W H b.w b.h L).2.1 ++ [⟨nm, b, (fitL W H b.w b.h L).2.2⟩])
/-- Put: the names removed, the error's number, the entries. -/
def putP (W H : Int) (L : List En) (nm : ByteArray) (b : Bm) : List ByteArray × Int × List En :=
  if nm.size = 0 ∨ rightB b = false then ([], 1, L) else
  match getP L nm with
  | some e => if sameB e.b b then ([], 0, useP L nm) else ([], 6, L)
  | none => addP W H L nm b
/-- What always holds of an atlas. -/
structure Inv (W H : Int) (L : List En) : Prop where
  names : L.Pairwise (fun a b => nmEq a.nm b.nm = false)
  right : ∀ e ∈ L, rightB e.b = true ∧ ∀ r ∈ e.b.rows, 0 ≤ r
  rect : ∀ e ∈ L, (e.b.w = 0 ∧ e.r = r0) ∨ (1 ≤ e.b.w ∧ e.r.w = e.b.w ∧ e.r.h = e.b.h ∧ 0 ≤ e.r.x ∧ e.r.x + e.r.w ≤ W ∧ 0 ≤ e.r.y ∧ e.r.y + e.r.h ≤ H)
  apart : L.Pairwise (fun a b => over a.r b.r = false)
/-! The first place -/
theorem rowP_some {L : List En} {w h y : Int} : ∀ {n : Nat} {x : Int} {c : Rc}, rowP L w h y n x = some c → ∃ x1, c = ⟨x1, y, w, h⟩ ∧ x ≤ x1 ∧ x1 < x + n ∧ free L c = true
  | 0, _, _, e => by cases e
  | n + 1, x, c, e => by
    unfold rowP at e
    split at e
    · next hf =>
      cases e
      exact ⟨x, rfl, Int.le_refl _, by omega, hf⟩
    · obtain ⟨x1, h1, h2, h3, h4⟩ := rowP_some e
      exact ⟨x1, h1, by omega, by omega, h4⟩
theorem colP_some {L : List En} {W w h : Int} : ∀ {n : Nat} {y : Int} {c : Rc}, colP L W w h n y = some c → ∃ x1 y1, c = ⟨x1, y1, w, h⟩ ∧ 0 ≤ x1 ∧ x1 + w ≤ W ∧ y ≤ y1 ∧ y1 < y + n ∧ free L c = true
  | 0, _, _, e => by cases e
  | n + 1, y, c, e => by
    unfold colP at e
    cases hr : rowP L w h y (W - w + 1).toNat 0 with
    | some c' =>
      rw [hr] at e
      simp at e
      subst e
      obtain ⟨x1, h1, h2, h3, h4⟩ := rowP_some hr
      exact ⟨x1, y, h1, h2, by omega, Int.le_refl _, by omega, h4⟩
    | none =>
      rw [hr] at e
      simp at e
      obtain ⟨x1, y1, h1, h2, h3, h4, h5, h6⟩ := colP_some e
      exact ⟨x1, y1, h1, h2, h3, by omega, by omega, h6⟩
theorem placeP_some {L : List En} {W H w h : Int} {c : Rc} (e : placeP L W H w h = some c) : c.w = w ∧ c.h = h ∧ 0 ≤ c.x ∧ c.x + w ≤ W ∧ 0 ≤ c.y ∧ c.y + h ≤ H ∧ free L c = true := by
  obtain ⟨x1, y1, rfl, h1, h2, h3, h4, h5⟩ := colP_some e
  exact ⟨rfl, rfl, h1, h2, h3, by show y1 + h ≤ H; omega, h5⟩
theorem placeP_nil {W H w h : Int} (h1 : w ≤ W) (h2 : h ≤ H) : placeP [] W H w h = some ⟨0, 0, w, h⟩ := by
  unfold placeP
  obtain ⟨n, hn⟩ : ∃ n, (H - h + 1).toNat = n + 1 := ⟨(H - h).toNat, by omega⟩
  obtain ⟨m, hm⟩ : ∃ m, (W - w + 1).toNat = m + 1 := ⟨(W - w).toNat, by omega⟩
  rw [hn, colP, hm, rowP]
  simp [free]
theorem toList_loop (a : ByteArray) (d : Nat) : ∀ (i : Nat) (r : List UInt8), a.size - i = d → ByteArray.toList.loop a i r = r.reverse ++ a.data.toList.drop i := by
  induction d with
  | zero =>
    intro i r hd
    rw [ByteArray.toList.loop, if_neg (by omega), List.drop_of_length_le (by simp only [Array.length_toList]; exact Nat.sub_eq_zero_iff_le.1 hd)]
    simp
  | succ d ih =>
    intro i r hd
    have hi : i < a.data.size := by have : a.data.size = a.size := rfl; omega
    have e : a.data.toList.drop i = a.data[i] :: a.data.toList.drop (i + 1) := by rw [List.drop_eq_getElem_cons (by simpa using hi)]; rfl
    rw [ByteArray.toList.loop, if_pos (by omega), ih _ _ (by omega), e]
    simp [ByteArray.get!, getElem!_pos a.data i hi]
theorem toList_data (a : ByteArray) : a.toList = a.data.toList := by
  unfold ByteArray.toList
  rw [toList_loop a _ 0 [] rfl]
  simp
theorem ext_of_toList {a b : ByteArray} (h : a.toList = b.toList) : a = b := by
  rw [toList_data, toList_data] at h
  apply ByteArray.ext
  exact Array.toList_inj.1 h
theorem nmEq_iff (a b : ByteArray) : nmEq a b = true ↔ a = b := by
  unfold nmEq
  rw [beq_iff_eq]
  exact ⟨fun h => ext_of_toList h, fun h => h ▸ rfl⟩
theorem nmEq_self (a : ByteArray) : nmEq a a = true := (nmEq_iff a a).2 rfl
theorem nmEq_comm (a b : ByteArray) : nmEq a b = nmEq b a := by
  have h : nmEq a b = true ↔ nmEq b a = true := by rw [nmEq_iff, nmEq_iff]; exact eq_comm
  cases h1 : nmEq a b <;> cases h2 : nmEq b a <;> simp_all
/-! What is removed -/
end Go.Proofs.Ytoleencecfjcjaa.At

/- A law for 'for .. := range f' where the iterator f writes variables of its own and hands out rows of memory: what the body owns (the blocks O) is told apart from what the iterator may turn. No program in it. -/
set_option linter.unusedVariables false
set_option linter.unusedSimpArgs false
namespace Go.Proofs.Ytoleencecfjcjaa.Rng
open Go.RowKit Go.Proofs.YtoleencecfjcjaaW.PrintWords
/-- Among the blocks that were there only those of T may be other ones; the rest of the world is as it was. -/
def Step (T : Nat → Prop) (W W' : World) : Prop := Kept W W' T ∧ Below 0 W W'
section
variable {T T' : Nat → Prop} {W W1 W2 : World}
theorem Step.refl (T : Nat → Prop) (W : World) : Step T W W := ⟨Kept.refl _ _, Below.refl _ _⟩
theorem Step.mono (h : Step T W W1) (ht : ∀ k, T k → T' k) : Step T' W W1 := ⟨h.1.mono ht, h.2⟩
theorem Step.trans (h : Step T W W1) (k : Step T' W1 W2) (ht : ∀ k, T' k → T k ∨ W.heap.size ≤ k) : Step T W W2 := ⟨h.1.then_ k.1 ht, h.2.trans k.2⟩
theorem Step.size (h : Step T W W1) : W.heap.size ≤ W1.heap.size := h.1.1
theorem Step.drew (h : Step T W W1) : Step T W W1.drew := ⟨h.1.drew, h.2.drew⟩
theorem Step.setCell (h : Step T W W1) {p : Addr} (hp : T p.block ∨ W.heap.size ≤ p.block) (u : Value) : Step T W (W1.setCell p u) := ⟨h.1.setCell hp u, h.2.setCell (Nat.zero_le _) u⟩
theorem Step.of_below (h : Below W.heap.size W W1) (T : Nat → Prop) : Step T W W1 := ⟨Kept.of_below h T, h.mono (Nat.zero_le _)⟩
theorem Step.grown (h : Step T W W1) {row : Option Nat} (hg : W1.grownBy W2 row) (hr : ∀ k, row = some k → T k ∨ W.heap.size ≤ k) : Step T W W2 := ⟨Kept.of_grown hg h.1 hr, h.2.grown hg (Nat.zero_le _) (fun _ _ => Nat.zero_le _)⟩
theorem Step.below (h : Step T W W1) {B : Nat} (ht : ∀ k, T k → B ≤ k) (hB : B ≤ W.heap.size) : Below B W W1 :=
  ⟨h.2.os, h.2.tape, h.2.output, h.1.1, fun k hk => h.1.2 k (by omega) (fun e => by have := ht k e; omega)⟩
theorem Step.same (h : Step T W W1) {k : Nat} {o : Obj} (ho : W.heap[k]? = some o) (hk : ¬ T k) : W1.heap[k]? = some o :=
  (h.1.2 k (Array.getElem?_eq_some_iff.1 ho).1 hk).trans ho
theorem Step.putObj (W : World) (l : Nat) (o : Obj) : Step (fun k => k = l) W (W.putObj l o) :=
  (Step.refl _ W).grown (grownBy_putObj' W l o) (fun k e => by cases e; exact .inl rfl)
end
/-- How the body of a round may be left. -/
def rgPost {α : Type} (I : List α → (Nat → Prop) → World → Prop) (Ix : Code → List α → (Nat → Prop) → World → Prop) (xs : List α) (O : Nat → Prop) (W : World) : Exit → Act → World → Prop
  | .normal, _, W' => ∃ O', I xs O' W' ∧ (∀ k, O' k → O k ∨ W.heap.size ≤ k) ∧ (∀ k, O' k → k < W'.heap.size) ∧ Step O W W'
  | .ret, _, W' => ∃ O', Ix .ret xs O' W' ∧ (∀ k, O' k → O k ∨ W.heap.size ≤ k) ∧ (∀ k, O' k → k < W'.heap.size) ∧ Step O W W'
  | .exit id, _, W' => ∃ O', Ix (.exit id) xs O' W' ∧ (∀ k, O' k → O k ∨ W.heap.size ≤ k) ∧ (∀ k, O' k → k < W'.heap.size) ∧ Step O W W'
  | .goto t, _, W' => ∃ O', Ix (.goto t) xs O' W' ∧ (∀ k, O' k → O k ∨ W.heap.size ≤ k) ∧ (∀ k, O' k → k < W'.heap.size) ∧ Step O W W'
  | .panic _, _, _ => False
  | .outgrown, _, _ => False
end Go.Proofs.Ytoleencecfjcjaa.Rng

/- The law of a range over a function once more, for an iterator that reads what is not its own: Rd, which the caller's invariant tells. No program in it. -/
set_option linter.unusedVariables false
set_option linter.unusedSimpArgs false
namespace Go.Proofs.Ytoleencecfjcjaa.Rng
open Go.RowKit Go.Proofs.YtoleencecfjcjaaW.PrintWords
/-- The iterator's contract, with what it reads (Rd). It hands out elements x (as the values 'encs x'), of each of which X holds in the world of that round (beside what came before); between rounds it turns its own variables T0 and what is new since it was called, but nothing of O, the blocks that the caller's rounds may write. -/
def IterR {α : Type} (F : Fence) (n : Nat) (P : Program) (gf : Nat) (lb : Array Value) (encs : α → Array Value) (X : List α → α → World → Prop) (T0 : Nat → Prop) (base : Nat) (Rd : World → Prop) (S Sp : List α → Prop) (w : World) : Prop :=
  ∀ (l : Nat) (J Jx : List α → (Nat → Prop) → World → Prop) (W : World) (O : Nat → Prop), Below w.heap.size w W →
    (∀ pre O W1, J pre O W1 → ∀ k, O k → base ≤ k ∧ ¬ T0 k ∧ k < W1.heap.size) →
    (∀ pre O W1, J pre O W1 → Rd W1) →
    (∀ pre O W1 W2, J pre O W1 → Step (fun k => T0 k ∨ (W.heap.size ≤ k ∧ ¬ O k)) W1 W2 → J pre O W2) →
    (∀ pre O W1 W2, Jx pre O W1 → Step (fun k => T0 k ∨ (W.heap.size ≤ k ∧ ¬ O k)) W1 W2 → Jx pre O W2) →
    (∀ pre x O W1, J pre O W1 → X pre x W1 → YieldAt F (n - 1) P l (encs x) W1 fun e W' =>
      (e = .returned (.bool true) ∧ ∃ O', J (pre ++ [x]) O' W' ∧ Step O W1 W' ∧ ∀ k, O' k → O k ∨ W1.heap.size ≤ k) ∨ (e = .returned (.bool false) ∧ ∃ O', Jx (pre ++ [x]) O' W')) →
    J [] O W →
    CallsIn F n P gf (#[.func (.yield l) #[] #[]] ++ lb) W fun e W' => (∃ v, e = .returned v) ∧ ((∃ xs O', S xs ∧ J xs O' W') ∨ (∃ pre O', Sp pre ∧ Jx pre O' W'))
theorem wpIn_rangeR {α : Type} {F : Fence} {n : Nat} {P : Program} {g : Operand} {ps : Array Tmp} {assign body : Code} {Q : Exit → Act → World → Prop} {a : Act} {w : World}
    (hro : F.round = none) (h1 : F.depth.isSome = true → 1 ≤ n) {gf : Nat} {lb : Array Value} (hg : a.eval g = .func (.func gf) #[] lb) (hFg : F.fn gf) (eg : ∀ args w, (callFunc gf args).run P w = .ok (.enter gf args) w)
    {encs : α → Array Value} {X : List α → α → World → Prop} {T0 : Nat → Prop} {base : Nat} {Rd : World → Prop} {S Sp : List α → Prop} (hseq : IterR F (n - 1) P gf lb encs X T0 base Rd S Sp w) (hps : ∀ x, (encs x).size = ps.size)
    (hX : ∀ pre x W l o o', X pre x W → W.heap[l]? = some o → o.isCells = false → X pre x (W.putObj l o'))
    (I : List α → (Nat → Prop) → World → Prop) (Ix : Code → List α → (Nat → Prop) → World → Prop)
    (hRd : ∀ pre O W, I pre O W → Rd W)
    (hI : ∀ pre O W W', I pre O W → Step (fun k => base ≤ k ∧ ¬ O k) W W' → I pre O W')
    (hIx : ∀ c pre O W W', Ix c pre O W → Step (fun k => base ≤ k ∧ ¬ O k) W W' → Ix c pre O W')
    (hbase : base ≤ w.heap.size) (hT0 : ∀ k, T0 k → base ≤ k ∧ k < w.heap.size)
    (O0 : Nat → Prop) (hO0 : ∀ k, O0 k → base ≤ k ∧ ¬ T0 k ∧ k < w.heap.size) (h0 : I [] O0 w) (a₁ : α → Act)
    (hassign : ∀ (l : Nat) (x : α) (W : World) (K : Act → World → Prop), K (a₁ x) W →
      assign.wpIn (F.inRound l) (n - 1 - 1) P (Exit.then K (fun _ _ _ => False)) { tmps := (ps.zip (encs x)).foldl (fun t (p, v) => t.setIfInBounds p v) a.tmps, defers := [] } W)
    (hbody : ∀ (l : Nat) (pre : List α) (x : α) (O : Nat → Prop) (W : World), I pre O W → X pre x W → (∀ k, O k → base ≤ k ∧ k < W.heap.size) → w.heap.size ≤ W.heap.size → body.wpIn (F.inRound l) (n - 1 - 1) P (rgPost I Ix (pre ++ [x]) O W) (a₁ x) W)
    (hdone : ∀ (D : Nat) (xs : List α) (O : Nat → Prop) (W : World), w.heap.size ≤ D → S xs → I xs O W → ¬ O D → W.heap[D]? = some (.deferred (some [])) → Q .normal { a with defers := { target := .collected D, args := #[] } :: a.defers } W)
    (hstop : ∀ (D : Nat) (c : Code) (pre : List α) (O : Nat → Prop) (W : World), w.heap.size ≤ D → Sp pre → Ix c pre O W → ¬ O D → W.heap[D]? = some (.deferred (some [])) → c.wpIn F n P Q { a with defers := { target := .collected D, args := #[] } :: a.defers } W) :
    (Code.rangeFunc g ps assign body).wpIn F n P Q a w := by
  refine wpIn_rangeFunc ?_
  intro fn hfn
  rw [hro]
  obtain ⟨rec, hrec⟩ : ∃ rec : LoopState → Option Code → Loop, rec = fun st pe => { state := st, pending := pe, fn, tmps := a.tmps, params := ps, assign, body, defers := w.heap.size } := ⟨_, rfl⟩
  obtain ⟨W1, hW1⟩ : ∃ W1, (w.alloc (.deferred (some []))).alloc (.loop (rec .ready none)) = W1 := ⟨_, rfl⟩
  have hL1 : W1.heap[w.heap.size + 1]? = some (.loop (rec .ready none)) := by
    rw [← hW1]; have := World.alloc_heap_new (w.alloc (.deferred (some []))) (.loop (rec .ready none)); rwa [World.size_alloc] at this
  have hK1 : W1.heap[w.heap.size]? = some (.deferred (some [])) := by
    rw [← hW1]; exact (Below.heap_alloc _ _ _ (by simp)).trans (World.alloc_heap_new w _)
  have hb1 : Below w.heap.size w W1 := by
    rw [← hW1]; exact ((Below.refl _ w).alloc (Nat.le_refl _) _).alloc (by simp) _
  have hs1 : W1.heap.size = w.heap.size + 1 + 1 := by rw [← hW1]; simp
  have hI1 : I [] O0 W1 := hI _ _ _ _ h0 (Step.of_below hb1 _)
  -- what the blocks of O are
  obtain ⟨OK, hOK⟩ : ∃ OK : (Nat → Prop) → World → Prop, OK = fun O W => ∀ k, O k → base ≤ k ∧ ¬ T0 k ∧ k ≠ w.heap.size ∧ k ≠ w.heap.size + 1 ∧ k < W.heap.size := ⟨_, rfl⟩
  have hstep : ∀ {O : Nat → Prop} {A B : World}, Step (fun k => T0 k ∨ (W1.heap.size ≤ k ∧ ¬ O k)) A B → OK O A → Step (fun k => base ≤ k ∧ ¬ O k) A B ∧ OK O B ∧ (∀ o, A.heap[w.heap.size + 1]? = some o → B.heap[w.heap.size + 1]? = some o) ∧ (∀ o, A.heap[w.heap.size]? = some o → B.heap[w.heap.size]? = some o) := by
    intro O A B hst hok
    rw [hOK] at hok
    refine ⟨hst.mono (fun k hk => ?_), ?_, fun o ho => hst.same ho ?_, fun o ho => hst.same ho ?_⟩
    · rcases hk with hk | hk
      · exact ⟨(hT0 k hk).1, fun e => (hok k e).2.1 hk⟩
      · exact ⟨by omega, hk.2⟩
    · rw [hOK]
      intro k hk
      obtain ⟨a1, a2, a3, a4, a5⟩ := hok k hk
      exact ⟨a1, a2, a3, a4, Nat.lt_of_lt_of_le a5 hst.size⟩
    · rintro (hk | hk)
      · have := (hT0 _ hk).2; omega
      · omega
    · rintro (hk | hk)
      · have := (hT0 _ hk).2; omega
      · omega
  refine ⟨w.heap.size + 1, [{ target := .collected w.heap.size, args := #[] }], W1, { target := .fn (.func gf) lb, args := #[.func (.yield (w.heap.size + 1)) #[] #[]] }, W1, gf,
    #[.func (.yield (w.heap.size + 1)) #[] #[]] ++ lb, W1, ?_, ?_, ?_, ?_, h1, ?_⟩
  · rw [← hW1, hrec]; exact run_enterLoop_outer _ _ _ _ _
  · simp only [resolve, hg]
    simp [go_sem]
  · intro f' hf'; simp [Target.leads] at hf'; subst hf'; exact hFg
  · simp [invoke, go_sem, eg]
  refine (hseq (w.heap.size + 1)
    (fun pre O W => I pre O W ∧ OK O W ∧ W.heap[w.heap.size + 1]? = some (.loop (rec .ready none)) ∧ W.heap[w.heap.size]? = some (.deferred (some [])))
    (fun pre O W => ∃ c, Ix c pre O W ∧ OK O W ∧ W.heap[w.heap.size + 1]? = some (.loop (rec .done (some c))) ∧ W.heap[w.heap.size]? = some (.deferred (some [])))
    W1 O0 hb1 ?_ ?_ ?_ ?_ ?_ ?_).mono ?_
  · rintro pre O A ⟨_, hok, _⟩ k hk
    rw [hOK] at hok
    obtain ⟨a1, a2, a3, a4, a5⟩ := hok k hk
    exact ⟨a1, a2, a5⟩
  · rintro pre O A ⟨hi, _⟩
    exact hRd _ _ _ hi
  · rintro pre O A B ⟨hi, hok, hl, hk⟩ hst
    obtain ⟨s1, s2, s3, s4⟩ := hstep hst hok
    exact ⟨hI _ _ _ _ hi s1, s2, s3 _ hl, s4 _ hk⟩
  · rintro pre O A B ⟨c, hi, hok, hl, hk⟩ hst
    obtain ⟨s1, s2, s3, s4⟩ := hstep hst hok
    exact ⟨c, hIx _ _ _ _ _ hi s1, s2, s3 _ hl, s4 _ hk⟩
  · -- one round
    rintro pre x O W ⟨hi, hok, hl, hk⟩ hx
    rw [hOK] at hok
    have hlt : w.heap.size + 1 < W.heap.size := (Array.getElem?_eq_some_iff.1 hl).1
    have hy := run_yield (P := P) (args := encs x) hl (by rw [hrec]; exact hps x)
    rw [hrec] at hy
    refine ⟨fn, _, assign, body, hy, roundIn_of_wpIn hfn (hassign _ x W _ ⟨_, run_beginRound hl (by rw [hrec]), ?_⟩)⟩
    obtain ⟨V, hV⟩ : ∃ V, V = W.putObj (w.heap.size + 1) (.loop { rec .ready none with state := .busy }) := ⟨_, rfl⟩
    rw [← hV]
    have sV : Step (fun k => k = w.heap.size + 1) W V := by rw [hV]; exact Step.putObj _ _ _
    have zV : V.heap.size = W.heap.size := by rw [hV]; simp
    have hl2 : V.heap[w.heap.size + 1]? = some (.loop { rec .ready none with state := .busy }) := by rw [hV]; exact World.putObj_heap_same hlt
    have hk2 : V.heap[w.heap.size]? = some (.deferred (some [])) := sV.same hk (by omega)
    have hiV : I pre O V := hI _ _ _ _ hi (sV.mono (fun k e => by subst e; exact ⟨by omega, fun hk => (hok _ hk).2.2.2.1 rfl⟩))
    have hxV : X pre x V := by rw [hV]; exact hX _ _ _ _ _ _ hx hl rfl
    refine wpIn_mono (hbody _ pre x O V hiV hxV (fun k hk => ⟨(hok k hk).1, by rw [zV]; exact (hok k hk).2.2.2.2⟩) (by omega)) ?_
    -- the round's end
    have fin : ∀ (jump : Option Code) (V3 : World), Step O V V3 → ∃ V4,
        (Instr.endRound (w.heap.size + 1) jump).run P V3 = .ok (.bool jump.isNone) V4 ∧ Step (fun k => k = w.heap.size + 1) V3 V4 ∧
        V4.heap[w.heap.size + 1]? = some (.loop (rec (if jump.isNone then .ready else .done) jump)) ∧ V4.heap[w.heap.size]? = some (.deferred (some [])) ∧ V4.heap.size = V3.heap.size := by
      intro jump V3 hs3
      have hl3 := hs3.same hl2 (fun e => (hok _ e).2.2.2.1 rfl)
      have hk3 := hs3.same hk2 (fun e => (hok _ e).2.2.1 rfl)
      have := run_endRound (P := P) jump hl3
      rw [hrec] at this ⊢
      rw [hrec] at hl3
      exact ⟨_, this, Step.putObj _ _ _, World.putObj_heap_same (Array.getElem?_eq_some_iff.1 hl3).1, (Step.putObj _ _ _).same hk3 (by omega), by simp⟩
    have okx : ∀ {O' : Nat → Prop} {V3 V4 : World}, (∀ k, O' k → O k ∨ V.heap.size ≤ k) → (∀ k, O' k → k < V3.heap.size) → V4.heap.size = V3.heap.size → OK O' V4 ∧ ∀ k, (k = w.heap.size + 1) → base ≤ k ∧ ¬ O' k := by
      intro O' V3 V4 hgrow hlt3 hz
      rw [hOK]
      have hne : ∀ k, O' k → base ≤ k ∧ ¬ T0 k ∧ k ≠ w.heap.size ∧ k ≠ w.heap.size + 1 := by
        intro k hk
        rcases hgrow k hk with h | h
        · obtain ⟨a1, a2, a3, a4, a5⟩ := hok k h
          exact ⟨a1, a2, a3, a4⟩
        · rw [zV] at h
          exact ⟨by omega, fun e => by have := (hT0 k e).2; omega, by omega, by omega⟩
      exact ⟨fun k hk => ⟨(hne k hk).1, (hne k hk).2.1, (hne k hk).2.2.1, (hne k hk).2.2.2, by rw [hz]; exact hlt3 k hk⟩, fun k e => by subst e; exact ⟨by omega, fun hk => (hne _ hk).2.2.2 rfl⟩⟩
    rintro e a3 V3 hp
    cases e with
    | normal =>
      obtain ⟨O', hi3, hgrow, hlt3, hs3⟩ := hp
      obtain ⟨V4, hr, s4, hl4, hk4, z4⟩ := fin none V3 hs3
      obtain ⟨hok4, hno⟩ := okx hgrow hlt3 z4
      refine ⟨_, _, hr, .inl ⟨rfl, O', ⟨hI _ _ _ _ hi3 (s4.mono hno), hok4, hl4, hk4⟩, ?_, fun k hk => by rw [← zV]; exact hgrow k hk⟩⟩
      refine ⟨⟨Nat.le_trans sV.size (Nat.le_trans hs3.size s4.size), fun i hi ho => ?_⟩, (sV.2.trans hs3.2).trans s4.2⟩
      by_cases e : i = w.heap.size + 1
      · subst e; rw [hl4, hl]; rfl
      · rw [s4.1.2 i (by have := hs3.size; omega) e, hs3.1.2 i (by omega) ho, sV.1.2 i hi e]
    | ret =>
      obtain ⟨O', hi3, hgrow, hlt3, hs3⟩ := hp
      obtain ⟨V4, hr, s4, hl4, hk4, z4⟩ := fin (some .ret) V3 hs3
      obtain ⟨hok4, hno⟩ := okx hgrow hlt3 z4
      exact ⟨_, _, hr, .inr ⟨rfl, O', .ret, hIx _ _ _ _ _ hi3 (s4.mono hno), hok4, hl4, hk4⟩⟩
    | exit id =>
      obtain ⟨O', hi3, hgrow, hlt3, hs3⟩ := hp
      obtain ⟨V4, hr, s4, hl4, hk4, z4⟩ := fin (some (.exit id)) V3 hs3
      obtain ⟨hok4, hno⟩ := okx hgrow hlt3 z4
      exact ⟨_, _, hr, .inr ⟨rfl, O', .exit id, hIx _ _ _ _ _ hi3 (s4.mono hno), hok4, hl4, hk4⟩⟩
    | goto t =>
      obtain ⟨O', hi3, hgrow, hlt3, hs3⟩ := hp
      obtain ⟨V4, hr, s4, hl4, hk4, z4⟩ := fin (some (.goto t)) V3 hs3
      obtain ⟨hok4, hno⟩ := okx hgrow hlt3 z4
      exact ⟨_, _, hr, .inr ⟨rfl, O', .goto t, hIx _ _ _ _ _ hi3 (s4.mono hno), hok4, hl4, hk4⟩⟩
    | panic ch => exact hp.elim
    | outgrown => exact hp.elim
  · refine ⟨hI1, ?_, hL1, hK1⟩
    rw [hOK]
    intro k hk
    obtain ⟨a1, a2, a3⟩ := hO0 k hk
    exact ⟨a1, a2, by omega, by omega, by omega⟩
  · -- behind the iterator
    have nOK : ∀ {O' : Nat → Prop} {A : World}, OK O' A → (∀ k, (k = w.heap.size + 1) → base ≤ k ∧ ¬ O' k) ∧ ¬ O' w.heap.size := by
      intro O' A h
      rw [hOK] at h
      exact ⟨fun k e => by subst e; exact ⟨by omega, fun hk => (h _ hk).2.2.2.1 rfl⟩, fun hk => (h _ hk).2.2.1 rfl⟩
    rintro e W2 ⟨⟨v, rfl⟩, (⟨xs, O', hS, hi, hok, hl, hk⟩ | ⟨pre, O', hSp, c, hi, hok, hl, hk⟩)⟩
    · have he := run_endLoop (P := P) hl (by rw [hrec]; simp)
      rw [hrec] at he
      obtain ⟨n1, n2⟩ := nOK hok
      exact ⟨none, _, he, hdone _ xs O' _ (Nat.le_refl _) hS (hI _ _ _ _ hi ((Step.putObj _ _ _).mono n1)) n2 ((Step.putObj _ _ _).same hk (by omega))⟩
    · have he := run_endLoop (P := P) hl (by rw [hrec]; simp)
      rw [hrec] at he
      obtain ⟨n1, n2⟩ := nOK hok
      exact ⟨some c, _, he, hstop _ c pre O' _ (Nat.le_refl _) hSp (hIx _ _ _ _ _ hi ((Step.putObj _ _ _).mono n1)) n2 ((Step.putObj _ _ _).same hk (by omega))⟩
end Go.Proofs.Ytoleencecfjcjaa.Rng

/- A region that draws its order, behind a fence: a load may be taken first in every world that meets S (the kit's words Last, with 'In' in the names). No program in it. -/
set_option linter.unusedVariables false
set_option linter.unusedSimpArgs false
namespace Go.Proofs.Ytoleencecfjcjaa.Rng
open Go.RowKit Go.Proofs.YtoleencecfjcjaaW.PrintLast
section
variable {F : Fence} {n : Nat} {P : Program} {ops : Array Oper} {Q : Exit → Act → World → Prop} {md : Region.Mode} {S : World → Prop} {ds : List Nat}
def YieldsIfIn (P : Program) (ops : Array Oper) (S : World → Prop) (o : Oper) (v : Value) (a : Act) : Prop := YieldsIf P ops S o v a ∧ ∀ w, o.about P w a.eval = none
theorem YieldsIfIn.wpOpIn {i : Nat} {o : Oper} {v : Value} {a : Act} (hro : F.round = none) (hi : ops[i]? = some o) (hy : YieldsIfIn P ops S o v a)
    {K : Act → World → Prop} {w : World} (hS : S w) (h : K (a.put o.dst v) w) : wpOpIn F n P ops Q i K a w := by
  unfold Go.wpOpIn
  simp only [hi]
  have hab : ∀ f, o.about P w a.eval = some f → F.fn f := fun f hf => by rw [hy.2 w] at hf; cases hf
  rcases hy.1 with ⟨hw, hv⟩ | ⟨hw, rfl⟩
  · simp only [hw, if_true, Oper.wpIn, hro, Oper.semAt_none, hv w hS, Oper.uponIn]; exact ⟨hab, h⟩
  · simp only [hw, Bool.false_eq_true, if_false]; exact ⟨hab, h⟩
theorem YieldsIfIn.of_same {o : Oper} {v : Value} {a a' : Act} (hy : YieldsIfIn P ops S o v a) (he : execOp a'.eval o = execOp a.eval o)
    (hw : Region.wanted o (yielded ops a'.tmps) = Region.wanted o (yielded ops a.tmps)) (hb : ∀ w, o.about P w a'.eval = o.about P w a.eval) : YieldsIfIn P ops S o v a' :=
  ⟨hy.1.of_same he hw, fun w => by rw [hb w]; exact hy.2 w⟩
theorem wpOpIn_putIf {j : Nat} {oi oj : Oper} {v : Value} (hro : F.round = none) (hj : ops[j]? = some oj) (hap : oi.apart ops oj = true)
    (hsi : ∀ cs b, oi.op ≠ .select cs b) (hsj : ∀ cs b, oj.op ≠ .select cs b)
    (hQ : ∀ c a w, Q (.panic c) (a.put oi.dst v) w → Q (.panic c) a w) {K : Act → World → Prop} {a : Act} {w : World}
    (hy : YieldsIfIn P ops S oi v a) (h : wpOpIn F n P ops Q j K (a.put oi.dst v) w) :
    wpOpIn F n P ops Q j (fun a' w' => YieldsIfIn P ops S oi v a' ∧ K (a'.put oi.dst v) w') a w := by
  obtain ⟨h1, h2, h3⟩ := Oper.apart_spec hap
  have keep : ∀ (a : Act), YieldsIfIn P ops S oi v a → ∀ u, YieldsIfIn P ops S oi v (a.put oj.dst u) := fun a hy u =>
    hy.of_same (execOp_put oi hsi a oj.dst u h3) (wanted_put oi a oj.dst u h3) (fun w => about_put oi w a oj.dst u h3)
  have keepD : ∀ d, YieldsIfIn P ops S oi v { a with defers := d :: a.defers } := fun d => hy.of_same rfl rfl (fun _ => rfl)
  unfold wpOpIn at *
  simp only [hj] at *
  rw [wanted_put oj a oi.dst v h1, about_put oj w a oi.dst v h1] at h
  split
  · rename_i hw
    simp only [hw, if_true] at h
    unfold Oper.wpIn at *
    rw [about_put oj w a oi.dst v h1] at h
    refine ⟨h.1, ?_⟩
    have h := h.2
    rw [hro, Oper.semAt_none, execOp_put oj hsj a oi.dst v h1] at h
    rw [hro, Oper.semAt_none]
    generalize (execOp a.eval oj).run P w = r at *
    cases r with
    | ok x w' =>
      cases x <;> simp only [Oper.uponIn] at h ⊢
      case value u => exact ⟨keep a hy u, by rw [← Act.put_comm a v u h2]; exact h⟩
      case skip => exact ⟨keep a hy _, by rw [← Act.put_comm a v undef h2]; exact h⟩
      case defer d =>
        refine ⟨keep _ (keepD d) _, ?_⟩
        rw [← Act.put_comm _ v undef h2, ← Act.put_defers]
        exact h
      case enter f args =>
        refine ⟨h.1, CallsIn.mono h.2 fun e w'' he => ?_⟩
        cases e with
        | returned u => exact ⟨keep a hy u, by rw [← Act.put_comm a v u h2]; exact he⟩
        | panicked c => exact hQ _ _ _ he
        | outgrown => exact he
      case row row args => exact ⟨h.1, RowsIn.mono h.2 fun u w'' he => ⟨keep a hy u, by rw [← Act.put_comm a v u h2]; exact he⟩⟩
      case round l f tmps assign body =>
        refine ⟨h.1, RoundIn.mono h.2 fun e w'' he => ?_⟩
        cases e with
        | returned u => exact ⟨keep a hy u, by rw [← Act.put_comm a v u h2]; exact he⟩
        | panicked c => exact hQ _ _ _ he
        | outgrown => exact he
    | halt x w' =>
      cases x <;> simp only [Oper.uponIn] at h ⊢
      case panic u => exact hQ _ _ _ h
  · rename_i hw
    simp only [hw] at h
    exact ⟨h.1, keep a hy _, by rw [← Act.put_comm a v undef h2]; exact h.2⟩
def wpAnyL (F : Fence) (n : Nat) (P : Program) (md : Region.Mode) (ops : Array Oper) (Q : Exit → Act → World → Prop) (S : World → Prop) (ds : List Nat) : Nat → Array Bool → Act → World → Prop
  | 0, listed, a, w => Region.ready md ops listed = [] ∧ Q .normal a w
  | fuel + 1, listed, a, w =>
    (Region.ready md ops listed = [] → Q .normal a w) ∧
    ∀ i ∈ Region.ready md ops listed, wpOpIn F n P ops Q i (fun a' w' => (i ∉ ds → S w → S w') ∧ wpAnyL F n P md ops Q S ds fuel (listed.setIfInBounds i true) a' w') a w
theorem wpAnyIn_of_L : ∀ (fuel : Nat) (listed : Array Bool) (a : Act) (w : World), wpAnyL F n P md ops Q S ds fuel listed a w → wpAnyIn F n P md ops Q fuel listed a w
  | 0, _, _, _, h => h
  | fuel + 1, _, _, _, h => ⟨h.1, fun i hi => wpOpIn_mono (fun a' w' h' => wpAnyIn_of_L fuel _ a' w' h'.2) (h.2 i hi)⟩
theorem wpAnyL_first {i : Nat} {oi : Oper} {v : Value} (hro : F.round = none) (hi : ops[i]? = some oi) (hsel : ∀ (j : Nat) (o : Oper) cs b, ops[j]? = some o → o.op ≠ .select cs b)
    (hQ : ∀ c a w, Q (.panic c) (a.put oi.dst v) w → Q (.panic c) a w) (m : Nat) :
    ∀ (fuel : Nat) (listed : Array Bool) (a : Act) (w : World),
      (∀ j oj, ops[j]? = some oj → j ≠ i → listed.getD j true = false → (∀ e ∈ oj.after, Region.binds md e = true → e.on ≠ i) → oi.apart ops oj = true) →
      ListedClosed md ops listed → (∀ d ∈ ds, listed.getD d true = false → Region.reachB md ops i m d = true) →
      i ∈ Region.ready md ops listed → YieldsIfIn P ops S oi v a → S w →
      wpAnyL F n P md ops Q S ds fuel (listed.setIfInBounds i true) (a.put oi.dst v) w → wpAnyL F n P md ops Q S ds (fuel + 1) listed a w := by
  intro fuel
  induction fuel with
  | zero =>
    intro listed a w _ _ _ hr hy hS H
    refine ⟨fun h => (by rw [h] at hr; cases hr), fun j hj => ?_⟩
    by_cases hji : j = i
    · subst hji; exact hy.wpOpIn hro hi hS ⟨fun _ h => h, H⟩
    · have := ready_mono hj hji
      rw [H.1] at this
      cases this
  | succ fuel ih =>
    intro listed a w hfree hc hd hr hy hS H
    refine ⟨fun h => (by rw [h] at hr; cases hr), fun j hj => ?_⟩
    by_cases hji : j = i
    · subst hji; exact hy.wpOpIn hro hi hS ⟨fun _ h => h, H⟩
    · have h1 := H.2 j (ready_mono hj hji)
      obtain ⟨hjun, oj, hoj, hall⟩ := mem_ready.1 hj
      have hiun := (mem_ready.1 hr).1
      have hnot : ∀ e ∈ oj.after, Region.binds md e = true → e.on ≠ i := fun e he hb heq => by
        have h1 := hall e he hb
        rw [heq] at h1
        rcases Nat.lt_or_ge i listed.size with h' | h'
        · simp [h'] at hiun h1; rw [hiun] at h1; cases h1
        · simp [Array.getElem?_eq_none h'] at h1
      have hjd : j ∉ ds := fun hm => Region.reach_not_ready hc (hd j hm hjun) hiun hj
      have h2 := wpOpIn_putIf hro hoj (hfree j oj hoj hji hjun hnot) (fun cs b => hsel i oi cs b hi) (fun cs b => hsel j oj cs b hoj) hQ hy h1
      have hfree' : ∀ k ok, ops[k]? = some ok → k ≠ i → (listed.setIfInBounds j true).getD k true = false →
          (∀ e ∈ ok.after, Region.binds md e = true → e.on ≠ i) → oi.apart ops ok = true := fun k ok hk hki hun hno => by
        refine hfree k ok hk hki ?_ hno
        by_cases hjk : j = k
        · subst hjk; exact hjun
        · rw [getD_set_ne true hjk] at hun; exact hun
      have hd' : ∀ d ∈ ds, (listed.setIfInBounds j true).getD d true = false → Region.reachB md ops i m d = true := fun d hm hun => by
        refine hd d hm ?_
        by_cases hjk : j = d
        · subst hjk; exact hjun
        · rw [getD_set_ne true hjk] at hun; exact hun
      refine wpOpIn_mono (fun a' w' h3 => ⟨h3.2.1, ih (listed.setIfInBounds j true) a' w' hfree' (hc.set hj) hd' (ready_mono hr (Ne.symm hji)) h3.1 (h3.2.1 hjd hS) ?_⟩) h2
      rw [Array.setIfInBounds_comm _ _ hji]
      exact h3.2.2
/-- An operation that yields in every world that meets S. -/
theorem tR {i : Nat} {N : Option Tmp} {oi : Oper} {v : Value} {fuel : Nat} {l : Array Bool} {a : Act} {w : World} (l' : Array Bool) (hi : ops[i]? = some oi) (hN : oi.dst = N) (hc : takeB md ops ds l l' i = true)
    (hy : YieldsIf P ops S oi v a) (hS : S w) {a' : Act} (ha : a.put N v = a')
    (h : wpAnyL F n P md ops Q S ds fuel l' a' w) (hro : F.round = none := by rfl) (hab : ∀ w, oi.about P w a.eval = none := by exact fun _ => rfl) (hQ : ∀ c a w, Q (.panic c) (a.put oi.dst v) w → Q (.panic c) a w := by exact fun _ _ _ h => h) : wpAnyL F n P md ops Q S ds (fuel + 1) l a w := by
  subst ha
  subst hN
  simp only [takeB, Bool.and_eq_true, beq_iff_eq] at hc
  obtain ⟨⟨⟨⟨⟨h1, h2⟩, h3⟩, h4⟩, h5⟩, h6⟩ := hc
  subst h6
  exact wpAnyL_first hro hi (Region.noSelect_spec h1) hQ ops.size fuel l a w (Region.free_spec hi h2) (Region.closedB_spec h4)
    (fun d hm hun => by have := List.all_eq_true.1 h5 d hm; rw [hun] at this; simpa using this) (by simpa using h3) ⟨hy, hab⟩ hS h
theorem wpAnyL_any {i : Nat} {oi : Oper} {v : Value} (hro : F.round = none) (hi : ops[i]? = some oi) (hsel : ∀ (j : Nat) (o : Oper) cs b, ops[j]? = some o → o.op ≠ .select cs b)
    (hQ : ∀ c a w, Q (.panic c) (a.put oi.dst v) w → Q (.panic c) a w) :
    ∀ (fuel : Nat) (listed : Array Bool) (a : Act) (w : World),
      (∀ j oj, ops[j]? = some oj → j ≠ i → listed.getD j true = false → (∀ e ∈ oj.after, Region.binds md e = true → e.on ≠ i) → oi.apart ops oj = true) →
      i ∈ Region.ready md ops listed → YieldsFenced P ops oi v a →
      wpAnyL F n P md ops Q S ds fuel (listed.setIfInBounds i true) (a.put oi.dst v) w → wpAnyL F n P md ops Q S ds (fuel + 1) listed a w := by
  intro fuel
  induction fuel with
  | zero =>
    intro listed a w _ hr hy H
    refine ⟨fun h => (by rw [h] at hr; cases hr), fun j hj => ?_⟩
    by_cases hji : j = i
    · subst hji; exact hy.wpOpIn hro hi ⟨fun _ h => h, H⟩
    · have := ready_mono hj hji
      rw [H.1] at this
      cases this
  | succ fuel ih =>
    intro listed a w hfree hr hy H
    refine ⟨fun h => (by rw [h] at hr; cases hr), fun j hj => ?_⟩
    by_cases hji : j = i
    · subst hji; exact hy.wpOpIn hro hi ⟨fun _ h => h, H⟩
    · have h1 := H.2 j (ready_mono hj hji)
      obtain ⟨hjun, oj, hoj, hall⟩ := mem_ready.1 hj
      have hiun := (mem_ready.1 hr).1
      have hnot : ∀ e ∈ oj.after, Region.binds md e = true → e.on ≠ i := fun e he hb heq => by
        have h1 := hall e he hb
        rw [heq] at h1
        rcases Nat.lt_or_ge i listed.size with h' | h'
        · simp [h'] at hiun h1; rw [hiun] at h1; cases h1
        · simp [Array.getElem?_eq_none h'] at h1
      have h2 := wpOpIn_put hro hoj (hfree j oj hoj hji hjun hnot) (fun cs b => hsel i oi cs b hi) (fun cs b => hsel j oj cs b hoj) hQ hy h1
      have hfree' : ∀ k ok, ops[k]? = some ok → k ≠ i → (listed.setIfInBounds j true).getD k true = false →
          (∀ e ∈ ok.after, Region.binds md e = true → e.on ≠ i) → oi.apart ops ok = true := fun k ok hk hki hun hno => by
        refine hfree k ok hk hki ?_ hno
        by_cases hjk : j = k
        · subst hjk; exact hjun
        · rw [getD_set_ne true hjk] at hun; exact hun
      refine wpOpIn_mono (fun a' w' h3 => ⟨h3.2.1, ih (listed.setIfInBounds j true) a' w' hfree' (ready_mono hr (Ne.symm hji)) h3.1 ?_⟩) h2
      rw [Array.setIfInBounds_comm _ _ hji]
      exact h3.2.2
/-- An operation that yields in every world. -/
theorem pR {i : Nat} {N : Option Tmp} {oi : Oper} {v : Value} {fuel : Nat} {l : Array Bool} {a : Act} {w : World} (l' : Array Bool) (hi : ops[i]? = some oi) (hN : oi.dst = N) (hc : anyB md ops l l' i = true)
    (hy : Yields P ops oi v a) {a' : Act} (ha : a.put N v = a')
    (h : wpAnyL F n P md ops Q S ds fuel l' a' w) (hro : F.round = none := by rfl) (hab : ∀ w, oi.about P w a.eval = none := by exact fun _ => rfl) (hQ : ∀ c a w, Q (.panic c) (a.put oi.dst v) w → Q (.panic c) a w := by exact fun _ _ _ h => h) : wpAnyL F n P md ops Q S ds (fuel + 1) l a w := by
  subst ha
  subst hN
  simp only [anyB, Bool.and_eq_true, beq_iff_eq] at hc
  obtain ⟨⟨⟨h1, h2⟩, h3⟩, h6⟩ := hc
  subst h6
  exact wpAnyL_any hro hi (Region.noSelect_spec h1) hQ fuel l a w (Region.free_spec hi h2) (by simpa using h3) ⟨hy, hab⟩ h
/-- One operation alone may come up now, behind which nothing is shown (one of ds). -/
theorem lR {i : Nat} {N : Option Tmp} {oi : Oper} {fuel : Nat} {l : Array Bool} {a : Act} {w : World} (l' : Array Bool) (hi : ops[i]? = some oi) (hN : oi.dst = N) (hc : readyB md ops l l' i = true) (hd : i ∈ ds)
    (hw : Region.wanted oi (yielded ops a.tmps) = true)
    (h : ∀ K : Act → World → Prop, Shut (∀ a' w', wpAnyL F n P md ops Q S ds fuel l' a' w' → K a' w') → oi.wpIn F n P a w K Q) :
    wpAnyL F n P md ops Q S ds (fuel + 1) l a w := by
  subst hN
  simp only [readyB, Bool.and_eq_true, beq_iff_eq] at hc
  obtain ⟨h1, h2⟩ := hc
  subst h2
  refine ⟨fun h0 => absurd (h1 ▸ h0) (by simp), fun j hj => ?_⟩
  rw [h1] at hj
  obtain rfl := List.mem_singleton.1 hj
  unfold wpOpIn
  simp only [hi, hw, if_true]
  exact h _ (fun a' w' hW => ⟨fun hn => absurd hd hn, hW⟩)
/-- One operation alone may come up now that keeps S (an alloc): none of ds. -/
theorem kR {i : Nat} {N : Option Tmp} {oi : Oper} {fuel : Nat} {l : Array Bool} {a : Act} {w : World} (l' : Array Bool) (hi : ops[i]? = some oi) (hN : oi.dst = N) (hc : readyB md ops l l' i = true)
    (hw : Region.wanted oi (yielded ops a.tmps) = true)
    (h : ∀ K : Act → World → Prop, Shut (∀ a' w', (S w → S w') → wpAnyL F n P md ops Q S ds fuel l' a' w' → K a' w') → oi.wpIn F n P a w K Q) :
    wpAnyL F n P md ops Q S ds (fuel + 1) l a w := by
  subst hN
  simp only [readyB, Bool.and_eq_true, beq_iff_eq] at hc
  obtain ⟨h1, h2⟩ := hc
  subst h2
  refine ⟨fun h0 => absurd (h1 ▸ h0) (by simp), fun j hj => ?_⟩
  rw [h1] at hj
  obtain rfl := List.mem_singleton.1 hj
  unfold wpOpIn
  simp only [hi, hw, if_true]
  exact h _ (fun a' w' hS hW => ⟨fun _ => hS, hW⟩)
theorem dR {l : Array Bool} {a : Act} {w : World} {m : Nat} (hr : (Region.ready md ops l == []) = true) (h : Q .normal a w) : wpAnyL F n P md ops Q S ds m l a w := by
  have hr' : Region.ready md ops l = [] := by simpa using hr
  cases m with
  | zero => exact ⟨hr', h⟩
  | succ m => exact ⟨fun _ => h, by rw [hr']; simp⟩
theorem sR {id m : Nat} {a : Act} {w : World} (l : Array Bool) (hm : P.follows .mixedOrders = true) (hn : ops.size = m) (hl : Array.replicate m false = l) (hS : S w.drew)
    (h : S w.drew → wpAnyL F n P .any ops Q S ds m l a w.drew) : (Code.region id ops true).wpIn F n P Q a w := by
  subst hn
  subst hl
  exact wpIn_region_any hm (wpAnyIn_of_L _ _ _ _ (h hS))
/-- The post without panics. -/
def noP (Q : Exit → Act → World → Prop) : Exit → Act → World → Prop
  | .panic _, _, _ => False
  | e, a, w => Q e a w
theorem sN {id m : Nat} {a : Act} {w : World} (l : Array Bool) (hm : P.follows .mixedOrders = true) (hn : ops.size = m) (hl : Array.replicate m false = l) (hS : S w.drew)
    (h : S w.drew → wpAnyL F n P .any ops (noP Q) S ds m l a w.drew) : (Code.region id ops true).wpIn F n P Q a w :=
  wpIn_mono (sR l hm hn hl hS h) (fun e a w h => by cases e <;> first | exact h | exact h.elim)
theorem dN {l : Array Bool} {a : Act} {w : World} {m : Nat} (hr : (Region.ready md ops l == []) = true) (h : Q .normal a w) : wpAnyL F n P md ops (noP Q) S ds m l a w := dR hr h
end
end Go.Proofs.Ytoleencecfjcjaa.Rng

/- The rows of a rectangle: cells and its iterator. -/
set_option linter.unusedVariables false
set_option linter.unusedSimpArgs false
namespace Go.Proofs.Ytoleencecfjcjaa.At
open Go.RowKit Go.Proofs.YtoleencecfjcjaaW.PrintWords Go.Proofs.YtoleencecfjcjaaW.PrintLast Go.Proofs.Ytoleencecfjcjaa.Rng
attribute [local go_sem] Oper.semAt_some
/-- A row of a rectangle: its number, its block. -/
structure Rw where
  k : Int
  p : Nat
def Rw.encs (X CW W : Nat) (x : Rw) : Array Value := #[.int .i64 x.k, .slice (some ⟨x.p, X, none⟩) CW (W - X)]
def Rw.X (P : List Nat) (Y CH : Nat) (pre : List Rw) (x : Rw) (_ : World) : Prop := x.k = (pre.length : Int) ∧ P[Y + pre.length]? = some x.p ∧ pre.length < CH
/-- The outer row holds the inner rows. -/
def Outer (gp W : Nat) (P : List Nat) (w : World) : Prop := ∀ k p, P[k]? = some p → w.cell? ⟨gp, k, none⟩ = some (.slice (some ⟨p, 0, none⟩) W W)
theorem free_of_one {w : World} {g : Nat} {cs : Array Value} {t : TypeId} (h : w.heap[g]? = some (.cells cs t (0, 0))) (j : Nat) : w.frozen? ⟨g, j, none⟩ = false := by
  simp [World.frozen?, h]
theorem lt_of_blk {w : World} {g : Nat} {o : Obj} (h : w.heap[g]? = some o) : g < w.heap.size := (Array.getElem?_eq_some_iff.1 h).1
theorem ckA {w : World} {g : Nat} {cs : Array Value} {t : TypeId} (h : w.heap[g]? = some (.cells cs t (0, 0))) (j : Nat) (v : Value) (hv : cs[j]? = some v) : w.cell? ⟨g, j, none⟩ = some v := by
  simp [World.cell?, h, hv]
set_option maxRecDepth 100000 in
set_option maxHeartbeats 400000 in
theorem cells_any (A : Option Addr) (n c : Nat) (x y cw ch : Int) (w : World) :
    Calls Try.prog 41 #[.slice A n c, .agg #[.int .i64 x, .int .i64 y, .int .i64 cw, .int .i64 ch]] w fun e w' => e = .returned (.func (.func 58) #[] #[.pointer (some ⟨w.heap.size + 1, 0, none⟩), .pointer (some ⟨w.heap.size, 0, none⟩)]) ∧ w' = (w.alloc (.cells #[.slice A n c] 61)).alloc (.cells #[.int .i64 x, .int .i64 y, .int .i64 cw, .int .i64 ch] 43) := by
  go_enter Try.func41, Try.ntmps41
  go_wp2
  go_ret
  exact ⟨by simp, rfl⟩
theorem sumY (a b : Nat) (h : a + b ≤ 1000) : IntKind.i64.wrap ((a : Int) + (b : Int)) = ((a + b : Nat) : Int) ∧ wrap64 ((a : Int) + (b : Int)) = ((a + b : Nat) : Int) := by
  constructor
  · rw [IntKind.wrap_i64]; omega
  · unfold wrap64; omega
theorem sum1 (a : Nat) (h : a ≤ 1000) : IntKind.i64.wrap ((a : Int) + 1) = ((a + 1 : Nat) : Int) ∧ wrap64 ((a : Int) + 1) = ((a + 1 : Nat) : Int) := by
  constructor
  · rw [IntKind.wrap_i64]; omega
  · unfold wrap64; omega
theorem cutRow (p X CW W : Nat) (h : X + CW ≤ W) (h3 : 0 < CW) (w : World) : (Instr.slice 79 (.slice (some ⟨p, 0, none⟩) W W) (some (.int .i64 (X : Int))) (some (.int .i64 ((X + CW : Nat) : Int))) none).run Try.prog w = .ok (.slice (some ⟨p, X, none⟩) CW (W - X)) w := by
  have hel : Try.prog.elem 79 = 4 := by kernel_rfl
  have hu : Try.prog.underlying 79 = some (.slice (Try.prog.elem 79)) := by rw [hel]; kernel_rfl
  have hi : (Try.prog.info? 4).map (·.size) = some 1 := by kernel_rfl
  obtain ⟨i, hi1, hi2⟩ := Option.map_eq_some_iff.1 hi
  rw [run_slice_lh w 79 _ W W hu .i64 .i64 (X : Int) ((X + CW : Nat) : Int) (by omega) (by omega) (by omega), hel]
  have hne : W ≠ X := by omega
  simp [sizeOf, typeInfo, hi1, hi2, sliced, Result.andThen, Addr.add, hne]
  exact ⟨fun h => h.symm, by omega⟩
set_option maxRecDepth 100000 in
set_option maxHeartbeats 4000000 in
theorem cells_iter (n base br bc gp W cap X Y CW CH : Nat) (P : List Nat) (w : World) (hW : W ≤ 128) (hP : P.length ≤ 128) (h1 : X + CW ≤ W) (h2 : Y + CH ≤ P.length) (h3 : CH = 0 ∨ 0 < CW)
    (hbr : w.heap[br]? = some (.cells #[.slice (some ⟨gp, 0, none⟩) P.length cap] 61 (0, 0))) (hbc : w.heap[bc]? = some (.cells #[.int .i64 (X : Int), .int .i64 (Y : Int), .int .i64 (CW : Int), .int .i64 (CH : Int)] 43 (0, 0))) :
    IterR Fence.wide n Try.prog 58 #[.pointer (some ⟨bc, 0, none⟩), .pointer (some ⟨br, 0, none⟩)] (Rw.encs X CW W) (Rw.X P Y CH) (fun k => k = bc ∨ k = br) base (Outer gp W P) (fun xs => xs.length = CH) (fun _ => True) w := by
  intro L J Jx W0 O hW0 hJO hJR hJ hJx hY h0
  have hcW := (hW0.block bc (lt_of_blk hbc)).trans hbc
  have hrW := (hW0.block br (lt_of_blk hbr)).trans hbr
  have c3 := ckA hcW 3 _ rfl
  refine callsIn_of_wp Try.func58 rfl trivial ?_ rfl
  simp only [Try.ntmps58, List.size_toArray, List.length_cons, List.length_nil, Nat.reduceAdd, Nat.reduceSub, Array.replicate_succ, Array.replicate_zero, List.push_toArray, List.append_toArray, List.nil_append, List.cons_append]
  gi_wp2
  gi_loopw [7] (fun v wr => ∃ (pre : List Rw) (O' : Nat → Prop), v = .int .i64 (pre.length : Int) ∧ pre.length ≤ CH ∧ J pre O' wr ∧ wr.heap[bc]? = some (.cells #[.int .i64 (X : Int), .int .i64 (Y : Int), .int .i64 (CW : Int), .int .i64 (CH : Int)] 43 (0, 0)) ∧ wr.heap[br]? = some (.cells #[.slice (some ⟨gp, 0, none⟩) P.length cap] 61 (0, 0)) ∧ W0.heap.size ≤ wr.heap.size) (fun v _ => ((CH : Int) - intOf v).toNat)
  case atStart => exact ⟨[], O, rfl, Nat.zero_le _, h0, hcW, hrW, Nat.le_refl _⟩
  case round =>
    obtain ⟨pre, O', rfl, hpl, hJ', hc, hr, hsz⟩ := hrel
    by_cases hlt : pre.length < CH
    · have t1 : decide ((pre.length : Int) < (CH : Int)) = true := decide_eq_true (by omega)
      obtain ⟨p, hp⟩ : ∃ p, P[Y + pre.length]? = some p := ⟨P[Y + pre.length]'(by omega), List.getElem?_eq_getElem _⟩
      have hst0 : Step (fun k => (k = bc ∨ k = br) ∨ W0.heap.size ≤ k ∧ ¬O' k) wr wr.drew := (Step.refl _ _).drew
      have hJd := hJ _ _ _ _ hJ' hst0
      have hrow := hJR _ _ _ hJd _ _ hp
      have hcd : wr.drew.heap[bc]? = _ := hc
      have hrd : wr.drew.heap[br]? = _ := hr
      have hOc : ¬ O' bc := fun h => (hJO _ _ _ hJ' _ h).2.1 (.inl rfl)
      have hOr : ¬ O' br := fun h => (hJO _ _ _ hJ' _ h).2.1 (.inr rfl)
      obtain ⟨fn, tmps, assign, body, hy, hR⟩ := hY pre ⟨(pre.length : Int), p⟩ O' wr.drew hJd ⟨rfl, hp, hlt⟩
      dsimp only [Rw.encs] at hy
      have q0 : wr.drew.cell? ⟨bc, 0, none⟩ = some (.int .i64 (X : Int)) := ckA hcd 0 _ rfl
      have q1 : wr.drew.cell? ⟨bc, 1, none⟩ = some (.int .i64 (Y : Int)) := ckA hcd 1 _ rfl
      have q2 : wr.drew.cell? ⟨bc, 2, none⟩ = some (.int .i64 (CW : Int)) := ckA hcd 2 _ rfl
      have q4 : wr.drew.cell? ⟨br, 0, none⟩ = some (.slice (some ⟨gp, 0, none⟩) P.length cap) := ckA hrd 0 _ rfl
      obtain ⟨j, hj⟩ : ∃ j, j = Y + pre.length := ⟨_, rfl⟩
      obtain ⟨e, he⟩ : ∃ e, e = X + CW := ⟨_, rfl⟩
      have i1 : ((0 : Int) ≤ (j : Int)) = True := eq_true (by omega)
      have i2 : ((j : Int) < (P.length : Int)) = True := eq_true (by omega)
      have HM := Lib.hid (show (IntKind.i64.wrap ((Y : Int) + (pre.length : Int)) = (j : Int) ∧ wrap64 ((Y : Int) + (pre.length : Int)) = (j : Int)) ∧ (IntKind.i64.wrap ((X : Int) + (CW : Int)) = (e : Int) ∧ wrap64 ((X : Int) + (CW : Int)) = (e : Int)) from by rw [hj, he]; exact ⟨sumY Y pre.length (by omega), sumY X CW (by omega)⟩)
      have hcut := cutRow p X CW W h1 (by omega)
      rw [← hj] at hrow
      rw [← he] at hcut
      have HJJ := Lib.hid hJd
      have HC := Lib.hid hcd
      have HR := Lib.hid hrd
      have HPL := Lib.hid hlt
      have HRR := Lib.hid hR
      have HSZ := Lib.hid hsz
      have HPP := Lib.hid hp
      clear hcW hrW hc hr hJ' hJd hrd hcd hst0 hpl hlt hp hj he hR hsz c3 h0
      gi_wp2
      obtain ⟨⟨m1a, m1b⟩, m2a, m2b⟩ := HM.out
      refine sN (m := 19) (S := fun w' => w'.cell? ⟨bc, 0, none⟩ = some (.int .i64 (X : Int)) ∧ w'.cell? ⟨bc, 1, none⟩ = some (.int .i64 (Y : Int)) ∧ w'.cell? ⟨bc, 2, none⟩ = some (.int .i64 (CW : Int)) ∧ w'.cell? ⟨br, 0, none⟩ = some (.slice (some ⟨gp, 0, none⟩) P.length cap) ∧ w'.cell? ⟨gp, j, none⟩ = some (.slice (some ⟨p, 0, none⟩) W W)) (ds := [17]) #[false, false, false, false, false, false, false, false, false, false, false, false, false, false, false, false, false, false, false] (by kernel_rfl) rfl rfl ⟨q0, q1, q2, q4, hrow⟩ (fun hHeld => ?_)
      refine pR (i := 0) (N := some 10) (v := ?_) (a' := ?_) #[true, false, false, false, false, false, false, false, false, false, false, false, false, false, false, false, false, false, false] rfl rfl (by kernel_rfl) (Or.inl ⟨by rfl, ?_⟩) ?_ ?_
      rotate_left
      · intro w'
        go_simp
        with_reducible rfl
      rotate_left
      · simp only [Act.put, List.setIfInBounds_toArray, List.set_cons_zero, List.set_cons_succ, i64_w, i32_w]
        rfl
      refine pR (i := 1) (N := some 11) (v := ?_) (a' := ?_) #[true, true, false, false, false, false, false, false, false, false, false, false, false, false, false, false, false, false, false] rfl rfl (by kernel_rfl) (Or.inl ⟨by rfl, ?_⟩) ?_ ?_
      rotate_left
      · intro w'
        go_simp
        with_reducible rfl
      rotate_left
      · simp only [Act.put, List.setIfInBounds_toArray, List.set_cons_zero, List.set_cons_succ, i64_w, i32_w]
        rfl
      refine tR (i := 2) (N := some 12) (v := ?_) (a' := ?_) #[true, true, true, false, false, false, false, false, false, false, false, false, false, false, false, false, false, false, false] rfl rfl (by kernel_rfl) (Or.inl ⟨by rfl, ?_⟩) hHeld ?_ ?_
      rotate_left
      · rintro w' ⟨s0, s1, s2, s3, s4⟩
        go_simp
        with_reducible rfl
      rotate_left
      · simp only [Act.put, List.setIfInBounds_toArray, List.set_cons_zero, List.set_cons_succ, i64_w, i32_w]
        rfl
      refine pR (i := 3) (N := some 13) (v := ?_) (a' := ?_) #[true, true, true, true, false, false, false, false, false, false, false, false, false, false, false, false, false, false, false] rfl rfl (by kernel_rfl) (Or.inl ⟨by rfl, ?_⟩) ?_ ?_
      rotate_left
      · intro w'
        go_simp
        with_reducible rfl
      rotate_left
      · simp only [Act.put, List.setIfInBounds_toArray, List.set_cons_zero, List.set_cons_succ, i64_w, i32_w]
        rfl
      refine tR (i := 4) (N := some 14) (v := ?_) (a' := ?_) #[true, true, true, true, true, false, false, false, false, false, false, false, false, false, false, false, false, false, false] rfl rfl (by kernel_rfl) (Or.inl ⟨by rfl, ?_⟩) hHeld ?_ ?_
      rotate_left
      · rintro w' ⟨s0, s1, s2, s3, s4⟩
        go_simp
        with_reducible rfl
      rotate_left
      · simp only [Act.put, List.setIfInBounds_toArray, List.set_cons_zero, List.set_cons_succ, i64_w, i32_w]
        rfl
      refine pR (i := 5) (N := some 15) (v := ?_) (a' := ?_) #[true, true, true, true, true, true, false, false, false, false, false, false, false, false, false, false, false, false, false] rfl rfl (by kernel_rfl) (Or.inl ⟨by rfl, ?_⟩) ?_ ?_
      rotate_left
      · intro w'
        go_simp
        with_reducible rfl
      rotate_left
      · simp only [Act.put, List.setIfInBounds_toArray, List.set_cons_zero, List.set_cons_succ, i64_w, i32_w]
        rfl
      refine pR (i := 6) (N := some 16) (v := ?_) (a' := ?_) #[true, true, true, true, true, true, true, false, false, false, false, false, false, false, false, false, false, false, false] rfl rfl (by kernel_rfl) (Or.inl ⟨by rfl, ?_⟩) ?_ ?_
      rotate_left
      · intro w'
        go_simp
        with_reducible rfl
      rotate_left
      · simp only [Act.put, List.setIfInBounds_toArray, List.set_cons_zero, List.set_cons_succ, i64_w, i32_w]
        rfl
      refine pR (i := 7) (N := some 17) (v := ?_) (a' := ?_) #[true, true, true, true, true, true, true, true, false, false, false, false, false, false, false, false, false, false, false] rfl rfl (by kernel_rfl) (Or.inl ⟨by rfl, ?_⟩) ?_ ?_
      rotate_left
      · intro w'
        go_simp
        with_reducible rfl
      rotate_left
      · simp only [Act.put, List.setIfInBounds_toArray, List.set_cons_zero, List.set_cons_succ, i64_w, i32_w]
        rfl
      refine tR (i := 8) (N := some 18) (v := ?_) (a' := ?_) #[true, true, true, true, true, true, true, true, true, false, false, false, false, false, false, false, false, false, false] rfl rfl (by kernel_rfl) (Or.inl ⟨by rfl, ?_⟩) hHeld ?_ ?_
      rotate_left
      · rintro w' ⟨s0, s1, s2, s3, s4⟩
        go_simp
        with_reducible rfl
      rotate_left
      · simp only [Act.put, List.setIfInBounds_toArray, List.set_cons_zero, List.set_cons_succ, i64_w, i32_w]
        rfl
      refine pR (i := 9) (N := some 19) (v := ?_) (a' := ?_) #[true, true, true, true, true, true, true, true, true, true, false, false, false, false, false, false, false, false, false] rfl rfl (by kernel_rfl) (Or.inl ⟨by rfl, ?_⟩) ?_ ?_
      rotate_left
      · intro w'
        go_simp
        with_reducible rfl
      rotate_left
      · simp only [Act.put, List.setIfInBounds_toArray, List.set_cons_zero, List.set_cons_succ, i64_w, i32_w]
        rfl
      refine tR (i := 10) (N := some 20) (v := ?_) (a' := ?_) #[true, true, true, true, true, true, true, true, true, true, true, false, false, false, false, false, false, false, false] rfl rfl (by kernel_rfl) (Or.inl ⟨by rfl, ?_⟩) hHeld ?_ ?_
      rotate_left
      · rintro w' ⟨s0, s1, s2, s3, s4⟩
        go_simp
        with_reducible rfl
      rotate_left
      · simp only [Act.put, List.setIfInBounds_toArray, List.set_cons_zero, List.set_cons_succ, i64_w, i32_w]
        rfl
      refine pR (i := 11) (N := some 21) (v := ?_) (a' := ?_) #[true, true, true, true, true, true, true, true, true, true, true, true, false, false, false, false, false, false, false] rfl rfl (by kernel_rfl) (Or.inl ⟨by rfl, ?_⟩) ?_ ?_
      rotate_left
      · intro w'
        go_simp
        with_reducible rfl
      rotate_left
      · simp only [Act.put, List.setIfInBounds_toArray, List.set_cons_zero, List.set_cons_succ, i64_w, i32_w]
        rfl
      refine tR (i := 12) (N := some 22) (v := ?_) (a' := ?_) #[true, true, true, true, true, true, true, true, true, true, true, true, true, false, false, false, false, false, false] rfl rfl (by kernel_rfl) (Or.inl ⟨by rfl, ?_⟩) hHeld ?_ ?_
      rotate_left
      · rintro w' ⟨s0, s1, s2, s3, s4⟩
        go_simp
        with_reducible rfl
      rotate_left
      · simp only [Act.put, List.setIfInBounds_toArray, List.set_cons_zero, List.set_cons_succ, i64_w, i32_w]
        rfl
      refine pR (i := 13) (N := some 23) (v := ?_) (a' := ?_) #[true, true, true, true, true, true, true, true, true, true, true, true, true, true, false, false, false, false, false] rfl rfl (by kernel_rfl) (Or.inl ⟨by rfl, ?_⟩) ?_ ?_
      rotate_left
      · intro w'
        go_simp
        with_reducible rfl
      rotate_left
      · simp only [Act.put, List.setIfInBounds_toArray, List.set_cons_zero, List.set_cons_succ, i64_w, i32_w]
        rfl
      refine tR (i := 14) (N := some 24) (v := ?_) (a' := ?_) #[true, true, true, true, true, true, true, true, true, true, true, true, true, true, true, false, false, false, false] rfl rfl (by kernel_rfl) (Or.inl ⟨by rfl, ?_⟩) hHeld ?_ ?_
      rotate_left
      · rintro w' ⟨s0, s1, s2, s3, s4⟩
        go_simp
        with_reducible rfl
      rotate_left
      · simp only [Act.put, List.setIfInBounds_toArray, List.set_cons_zero, List.set_cons_succ, i64_w, i32_w]
        rfl
      refine pR (i := 15) (N := some 25) (v := ?_) (a' := ?_) #[true, true, true, true, true, true, true, true, true, true, true, true, true, true, true, true, false, false, false] rfl rfl (by kernel_rfl) (Or.inl ⟨by rfl, ?_⟩) ?_ ?_
      rotate_left
      · intro w'
        go_simp
        with_reducible rfl
      rotate_left
      · simp only [Act.put, List.setIfInBounds_toArray, List.set_cons_zero, List.set_cons_succ, i64_w, i32_w]
        rfl
      refine pR (i := 16) (N := some 26) (v := ?_) (a' := ?_) #[true, true, true, true, true, true, true, true, true, true, true, true, true, true, true, true, true, false, false] rfl rfl (by kernel_rfl) (Or.inl ⟨by rfl, ?_⟩) ?_ ?_
      rotate_left
      · intro w'
        go_simp
        with_reducible rfl
      rotate_left
      · simp only [Act.put, List.setIfInBounds_toArray, List.set_cons_zero, List.set_cons_succ, i64_w, i32_w]
        rfl
      refine lR (i := 17) (N := some 27) #[true, true, true, true, true, true, true, true, true, true, true, true, true, true, true, true, true, true, false] rfl rfl (by kernel_rfl) (by decide) (by rfl) (fun K hK => ?_)
      refine ⟨fun f _ => trivial, ?_⟩
      go_simp
      refine ⟨fun h => absurd h (by simp [Fence.wide]), ?_⟩
      refine HRR.out.mono ?_
      rintro e0 W1 hE
      obtain ⟨b, rfl, hb⟩ : ∃ b : Bool, e0 = .returned (.bool b) ∧ ((b = true ∧ ∃ O2, J (pre ++ [⟨(pre.length : Int), p⟩]) O2 W1 ∧ Step O' wr.drew W1) ∨ (b = false ∧ ∃ O2, Jx (pre ++ [⟨(pre.length : Int), p⟩]) O2 W1)) := by
        rcases hE with ⟨rfl, O2, a1, a2, _⟩ | ⟨rfl, O2, a1⟩
        · exact ⟨true, rfl, .inl ⟨rfl, O2, a1, a2⟩⟩
        · exact ⟨false, rfl, .inr ⟨rfl, O2, a1⟩⟩
      have HB := Lib.hid hb
      clear hE hb
      refine hK _ _ ?_
      clear hK K
      refine pR (i := 18) (N := some 28) (v := ?_) (a' := ?_) #[true, true, true, true, true, true, true, true, true, true, true, true, true, true, true, true, true, true, true] rfl rfl (by kernel_rfl) (Or.inl ⟨by rfl, ?_⟩) ?_ ?_
      rotate_left
      · intro w'
        go_simp
        with_reducible rfl
      rotate_left
      · simp only [Act.put, List.setIfInBounds_toArray, List.set_cons_zero, List.set_cons_succ, i64_w, i32_w]
        rfl
      refine dN (by kernel_rfl) ?_
      clear q0 q1 q2 q4 hrow m1a m1b m2a m2b i1 i2 hcut hy hHeld
      rcases HB.out with ⟨rfl, O2, hJ2, hst⟩ | ⟨rfl, O2, hJx2⟩
      · have HJ2 := Lib.hid hJ2
        have HST := Lib.hid hst
        clear hJ2 hst
        have hw : IntKind.i64.wrap ((pre.length : Int) + 1) = ((pre.length + 1 : Nat) : Int) := (sumY pre.length 1 (by have := HPL.out; omega)).1
        have hw2 : wrap64 ((pre.length : Int) + 1) = ((pre.length + 1 : Nat) : Int) := (sumY pre.length 1 (by have := HPL.out; omega)).2
        gi_wp2
        refine ⟨⟨pre ++ [⟨(pre.length : Int), p⟩], O2, by rw [List.length_append, List.length_singleton]; rfl, by rw [List.length_append, List.length_singleton]; exact HPL.out, HJ2.out, HST.out.same HC.out hOc, HST.out.same HR.out hOr, Nat.le_trans HSZ.out HST.out.size⟩, ?_⟩
        have := HPL.out
        simp only [intOf]
        omega
      · gi_wp2
        refine bodyPost_ret (results_none rfl _ _ _) rfl ?_
        exact ⟨⟨_, rfl⟩, .inr (by first | exact ⟨_, O2, hJx2⟩ | exact ⟨_, O2, trivial, hJx2⟩)⟩
    · have t1 : decide ((pre.length : Int) < (CH : Int)) = false := decide_eq_false (by omega)
      gi_wp2
      go_end0
      exact ⟨⟨_, rfl⟩, .inl ⟨pre, O', by omega, hJ'⟩⟩
end Go.Proofs.Ytoleencecfjcjaa.At

/- Rows of pixels; mark. -/
set_option linter.unusedVariables false
set_option linter.unusedSimpArgs false
namespace Go.Proofs.Ytoleencecfjcjaa.At
open Go.RowKit Go.Proofs.YtoleencecfjcjaaW.PrintWords Go.Proofs.YtoleencecfjcjaaW.PrintLast Go.Proofs.Ytoleencecfjcjaa.Rng
attribute [local go_sem] Oper.semAt_some
def boolsA (n : Nat) (f : Nat → Bool) : Array Value := ((List.range n).map (fun x => Value.bool (f x))).toArray
theorem boolsA_get (n : Nat) (f : Nat → Bool) (x : Nat) (h : x < n) : (boolsA n f)[x]? = some (.bool (f x)) := by
  simp [boolsA, h]
theorem boolsA_set (n : Nat) (f : Nat → Bool) (x : Nat) (b : Bool) : (boolsA n f).setIfInBounds x (.bool b) = boolsA n (fun z => if z = x then b else f z) := by
  apply Array.ext_getElem?
  intro j
  rw [Array.getElem?_setIfInBounds]
  by_cases h1 : x = j
  · subst h1
    simp [boolsA]
    by_cases h2 : x < n
    · simp [h2]
    · simp [h2]
  · rw [if_neg h1]
    by_cases h2 : j < n
    · rw [boolsA_get _ _ _ h2, boolsA_get _ _ _ h2, if_neg (fun e => h1 e.symm)]
    · simp [boolsA, h2]
theorem boolsA_congr {n : Nat} {f f' : Nat → Bool} (h : ∀ x, x < n → f x = f' x) : boolsA n f = boolsA n f' := by
  apply Array.ext_getElem?
  intro j
  by_cases h2 : j < n
  · rw [boolsA_get _ _ _ h2, boolsA_get _ _ _ h2, h j h2]
  · simp [boolsA, h2]
def Rows (P : List Nat) (W : Nat) (px : Nat → Nat → Bool) (w : World) : Prop := ∀ (k p : Nat), P[k]? = some p → w.heap[p]? = some (.cells (boolsA W (px k)) 4 (0, 0))
def setR (px : Nat → Nat → Bool) (X Y CW CH : Nat) (b : Nat → Nat → Bool) : Nat → Nat → Bool := fun y x => if Y ≤ y ∧ y < Y + CH ∧ X ≤ x ∧ x < X + CW then b (y - Y) (x - X) else px y x
theorem Rows.same {P : List Nat} {W : Nat} {px : Nat → Nat → Bool} {w w' : World} (h : Rows P W px w) (hb : ∀ p, p ∈ P → w'.heap[p]? = w.heap[p]?) : Rows P W px w' := fun k p hp => (hb p (List.mem_of_getElem? hp)).trans (h k p hp)
theorem cell_eq {w w' : World} {p : Addr} (h : w'.heap[p.block]? = w.heap[p.block]?) : w'.cell? p = w.cell? p := by
  unfold World.cell?
  rw [h]
theorem cell_setB {w : World} {b : Nat} {cs : Array Value} {T : TypeId} (h : w.heap[b]? = some (.cells cs T (0, 0))) (j : Nat) (v : Value) : (w.setCell ⟨b, j, none⟩ v).heap[b]? = some (.cells (cs.setIfInBounds j v) T (0, 0)) := by
  have : (w.setCell ⟨b, j, none⟩ v).heap[b]? = (w.heap[b]?).map (fun | .cells c e f => .cells (c.setIfInBounds j v) e f | o => o) := by
    simp [World.setCell, Array.getElem?_modify]
    rfl
  rw [this, h]
  rfl
theorem nodup_inj {l : List Nat} (h : l.Nodup) {i j : Nat} (hi : i < l.length) (hj : j < l.length) (e : l[i] = l[j]) : i = j := by
  rcases Nat.lt_trichotomy i j with c | c | c
  · exact absurd e (List.pairwise_iff_getElem.1 h i j hi hj c)
  · exact c
  · exact absurd e.symm (List.pairwise_iff_getElem.1 h j i hj hi c)
/-- One more row is set. -/
theorem Rows.next {P : List Nat} {W X Y CW j : Nat} {px : Nat → Nat → Bool} {b : Nat → Nat → Bool} {w w' : World} {p : Nat} (h : Rows P W (setR px X Y CW j b) w) (hn : P.Nodup) (hp : P[Y + j]? = some p)
    (hs : ∀ q, q ∈ P → q ≠ p → w'.heap[q]? = w.heap[q]?) (hb : w'.heap[p]? = some (.cells (boolsA W (fun x => if X ≤ x ∧ x < X + CW then b j (x - X) else px (Y + j) x)) 4 (0, 0))) : Rows P W (setR px X Y CW (j + 1) b) w' := by
  intro k q hq
  by_cases hk : k = Y + j
  · subst hk
    rw [hp] at hq
    cases hq
    rw [hb]
    congr 2
    refine boolsA_congr (fun x hx => ?_)
    unfold setR
    rw [show Y + j - Y = j by omega]
    by_cases c : X ≤ x ∧ x < X + CW
    · rw [if_pos c, if_pos ⟨by omega, by omega, c.1, c.2⟩]
    · rw [if_neg c, if_neg (fun e => c ⟨e.2.2.1, e.2.2.2⟩)]
  · have hne : q ≠ p := fun e => by
      subst e
      have h1 := (List.getElem?_eq_some_iff.1 hq)
      have h2 := (List.getElem?_eq_some_iff.1 hp)
      obtain ⟨l1, e1⟩ := h1
      obtain ⟨l2, e2⟩ := h2
      exact hk (nodup_inj hn l1 l2 (e1.trans e2.symm))
    rw [hs q (List.mem_of_getElem? hq) hne, h k q hq]
    congr 2
    refine boolsA_congr (fun x hx => ?_)
    unfold setR
    by_cases c : Y ≤ k ∧ k < Y + j ∧ X ≤ x ∧ x < X + CW
    · rw [if_pos c, if_pos ⟨c.1, by omega, c.2.2⟩]
    · rw [if_neg c, if_neg (fun e => c ⟨e.1, by omega, e.2.2⟩)]
theorem setR_zero (px : Nat → Nat → Bool) (X Y CW : Nat) (b : Nat → Nat → Bool) : setR px X Y CW 0 b = px := by
  funext y x
  unfold setR
  rw [if_neg (by omega)]
set_option maxRecDepth 100000 in
set_option maxHeartbeats 4000000 in
theorem mark_c {w : World} {g gt W cap X Y CW CH : Nat} {Q : List Nat} {tk : Nat → Nat → Bool} {c0 c1 c2 c4 c5 : Value} (b : Bool) (hW : W ≤ 128) (hQ : Q.length ≤ 128) (h1 : X + CW ≤ W) (h2 : Y + CH ≤ Q.length) (h3 : CH = 0 ∨ 0 < CW)
    (hg : w.heap[g]? = some (.cells #[c0, c1, c2, .slice (some ⟨gt, 0, none⟩) Q.length cap, c4, c5] 64 (0, 0))) (ho : Outer gt W Q w) (hgt : gt < w.heap.size) (hr : Rows Q W tk w) (hn : Q.Nodup) (hng : g ∉ Q) (hnt : gt ∉ Q) :
    Calls Try.prog 40 #[.pointer (some ⟨g, 0, none⟩), .agg #[.int .i64 (X : Int), .int .i64 (Y : Int), .int .i64 (CW : Int), .int .i64 (CH : Int)], .bool b] w fun e w' => e = .returned (.tuple #[]) ∧ Rows Q W (setR tk X Y CW CH (fun _ _ => b)) w' ∧ Step (fun k => k ∈ Q) w w' := by
  refine (callsIn_wide (n := 3)).1 ?_
  refine callsIn_of_wp_marks Try.func40 rfl trivial ?_ rfl
  simp only [Try.ntmps40, List.size_toArray, List.length_cons, List.length_nil, Nat.reduceAdd, Nat.reduceSub, Array.replicate_succ, Array.replicate_zero, List.push_toArray, List.append_toArray, List.nil_append, List.cons_append]
  gi_wp2
  obtain ⟨w1, hw1⟩ : ∃ W, W = (w.alloc (.cells #[.int .i64 (X : Int), .int .i64 (Y : Int), .int .i64 (CW : Int), .int .i64 (CH : Int)] 43)).alloc (.cells #[.bool b] 4) := ⟨_, rfl⟩
  have hx : w1.heap[w.heap.size]? = some (.cells #[.int .i64 (X : Int), .int .i64 (Y : Int), .int .i64 (CW : Int), .int .i64 (CH : Int)] 43 (0, 0)) := by rw [hw1]; exact blk_alloc (blk_new w _) _
  have hy : w1.heap[w.heap.size + 1]? = some (.cells #[.bool b] 4 (0, 0)) := by
    have := blk_new (w.alloc (.cells #[.int .i64 (X : Int), .int .i64 (Y : Int), .int .i64 (CW : Int), .int .i64 (CH : Int)] 43)) (.cells #[.bool b] 4)
    rw [hw1]
    simpa using this
  have hz : w1.heap.size = w.heap.size + 2 := by rw [hw1]; simp
  have hB : Below w.heap.size w w1 := by rw [hw1]; exact below_alloc (below_alloc (Below.refl _ _) _) _
  have hg1 := blk_below hg hB
  rw [← hw1]
  have q3 : w1.drew.cell? ⟨g, 3, none⟩ = some (.slice (some ⟨gt, 0, none⟩) Q.length cap) := ckA hg1 3 _ rfl
  have x0 : w1.drew.cell? ⟨w.heap.size, 0, none⟩ = some (.int .i64 (X : Int)) := ckA hx 0 _ rfl
  have x1 : w1.drew.cell? ⟨w.heap.size, 1, none⟩ = some (.int .i64 (Y : Int)) := ckA hx 1 _ rfl
  have x2 : w1.drew.cell? ⟨w.heap.size, 2, none⟩ = some (.int .i64 (CW : Int)) := ckA hx 2 _ rfl
  have x3 : w1.drew.cell? ⟨w.heap.size, 3, none⟩ = some (.int .i64 (CH : Int)) := ckA hx 3 _ rfl
  clear hw1
  refine sN (m := 6) (S := fun w' => w'.cell? ⟨g, 3, none⟩ = some (.slice (some ⟨gt, 0, none⟩) Q.length cap) ∧ w'.cell? ⟨w.heap.size, 0, none⟩ = some (.int .i64 (X : Int)) ∧ w'.cell? ⟨w.heap.size, 1, none⟩ = some (.int .i64 (Y : Int)) ∧ w'.cell? ⟨w.heap.size, 2, none⟩ = some (.int .i64 (CW : Int)) ∧ w'.cell? ⟨w.heap.size, 3, none⟩ = some (.int .i64 (CH : Int))) (ds := [5]) #[false, false, false, false, false, false] (by kernel_rfl) rfl rfl ⟨q3, x0, x1, x2, x3⟩ (fun hHeld => ?_)
  refine pR (i := 0) (N := some 9) (v := ?_) (a' := ?_) #[true, false, false, false, false, false] rfl rfl (by kernel_rfl) (Or.inl ⟨by rfl, ?_⟩) ?_ ?_
  rotate_left
  · intro w'
    go_simp
    with_reducible rfl
  rotate_left
  · simp only [Act.put, List.setIfInBounds_toArray, List.set_cons_zero, List.set_cons_succ, i64_w, i32_w]
    rfl
  refine pR (i := 1) (N := some 10) (v := ?_) (a' := ?_) #[true, true, false, false, false, false] rfl rfl (by kernel_rfl) (Or.inl ⟨by rfl, ?_⟩) ?_ ?_
  rotate_left
  · intro w'
    go_simp
    with_reducible rfl
  rotate_left
  · simp only [Act.put, List.setIfInBounds_toArray, List.set_cons_zero, List.set_cons_succ, i64_w, i32_w]
    rfl
  refine pR (i := 2) (N := some 11) (v := ?_) (a' := ?_) #[true, true, true, false, false, false] rfl rfl (by kernel_rfl) (Or.inl ⟨by rfl, ?_⟩) ?_ ?_
  rotate_left
  · intro w'
    go_simp
    with_reducible rfl
  rotate_left
  · simp only [Act.put, List.setIfInBounds_toArray, List.set_cons_zero, List.set_cons_succ, i64_w, i32_w]
    rfl
  refine tR (i := 3) (N := some 12) (v := ?_) (a' := ?_) #[true, true, true, true, false, false] rfl rfl (by kernel_rfl) (Or.inl ⟨by rfl, ?_⟩) hHeld ?_ ?_
  rotate_left
  · rintro w' ⟨s0, s1, s2, s3, s4⟩
    go_simp
    with_reducible rfl
  rotate_left
  · simp only [Act.put, List.setIfInBounds_toArray, List.set_cons_zero, List.set_cons_succ, i64_w, i32_w]
    rfl
  refine tR (i := 4) (N := some 13) (v := ?_) (a' := ?_) #[true, true, true, true, true, false] rfl rfl (by kernel_rfl) (Or.inl ⟨by rfl, ?_⟩) hHeld ?_ ?_
  rotate_left
  · rintro w' ⟨s0, s1, s2, s3, s4⟩
    go_simp
    with_reducible rfl
  rotate_left
  · simp only [Act.put, List.setIfInBounds_toArray, List.set_cons_zero, List.set_cons_succ, i64_w, i32_w]
    rfl
  refine lR (i := 5) (N := some 14) #[true, true, true, true, true, true] rfl rfl (by kernel_rfl) (by decide) (by rfl) (fun K hK => ?_)
  refine ⟨fun f _ => trivial, ?_⟩
  go_simp
  refine (callsIn_wide.2 (cells_any (some ⟨gt, 0, none⟩) Q.length cap (X : Int) (Y : Int) (CW : Int) (CH : Int) _)).mono ?_
  rintro e0 W0 ⟨rfl, hW0⟩
  have HW0 := Lib.hid hW0
  clear hW0
  refine hK _ _ ?_
  clear hK K
  refine dN (by kernel_rfl) ?_
  gi_wp2
  obtain ⟨M, hM⟩ : ∃ M, M = w1.heap.size := ⟨_, rfl⟩
  have hMd : w1.drew.heap.size = M := hM.symm
  have hW0 := HW0.out
  have hbr : W0.heap[M]? = some (.cells #[.slice (some ⟨gt, 0, none⟩) Q.length cap] 61 (0, 0)) := by rw [hW0, ← hMd]; exact blk_alloc (blk_new _ _) _
  have hbc : W0.heap[M + 1]? = some (.cells #[.int .i64 (X : Int), .int .i64 (Y : Int), .int .i64 (CW : Int), .int .i64 (CH : Int)] 43 (0, 0)) := by
    have := blk_new (w1.drew.alloc (.cells #[.slice (some ⟨gt, 0, none⟩) Q.length cap] 61)) (.cells #[.int .i64 (X : Int), .int .i64 (Y : Int), .int .i64 (CW : Int), .int .i64 (CH : Int)] 43)
    rw [hW0, ← hMd]
    simpa using this
  have hk0 : Below M w1 W0 := by rw [hW0, hM]; exact below_alloc (below_alloc (below_drew (Below.refl _ _)) _) _
  have hsz0 : M + 2 = W0.heap.size := by rw [hW0, ← hMd]; simp
  have hQlt : ∀ p, p ∈ Q → p < w.heap.size := fun p hp => by
    obtain ⟨k, hk⟩ := List.getElem?_of_mem hp
    exact lt_of_blk (hr k p hk)
  have ho1 : Outer gt W Q w1 := fun k p hp => (cell_eq (p := ⟨gt, k, none⟩) (hB.block gt hgt)).trans (ho k p hp)
  have hr1 : Rows Q W tk w1 := hr.same (fun p hp => hB.block p (hQlt p hp))
  rw [hMd]
  have HM := Lib.hid hM
  have HZ := Lib.hid hz
  have HZ0 := Lib.hid hsz0
  clear hHeld q3 x0 x1 x2 x3 hW0 HW0 hMd
  refine wpIn_rangeR (encs := Rw.encs X CW W) (X := Rw.X Q Y CH) (S := fun xs => xs.length = CH) (Sp := fun _ => True) (base := 0) (T0 := fun k => k = M + 1 ∨ k = M) (Rd := Outer gt W Q) rfl (fun h => absurd h (by simp [Fence.wide])) (gf := 58) (lb := #[.pointer (some ⟨M + 1, 0, none⟩), .pointer (some ⟨M, 0, none⟩)]) rfl trivial (enters_of Try.func58 (by kernel_rfl) rfl)
    ?hseq (fun _ => rfl) ?hX (fun pre O W' => O = (fun k => k < M) ∧ Step (fun k => k ∈ Q) w1 W' ∧ Rows Q W (setR tk X Y CW pre.length (fun _ _ => b)) W') (fun _ _ _ _ => False) ?hRd ?hI ?hIx (Nat.zero_le _) ?hT0 (fun k => k < M) ?hO ?h0
    (fun x => { tmps := #[.pointer (some ⟨g, 0, none⟩), .agg #[.int .i64 (X : Int), .int .i64 (Y : Int), .int .i64 (CW : Int), .int .i64 (CH : Int)], .bool b, undef, .pointer (some ⟨w.heap.size, 0, none⟩), .pointer (some ⟨w.heap.size + 1, 0, none⟩), undef, .slice (some ⟨x.p, X, none⟩) CW (W - X), undef, .pointer (some ⟨g, 0, none⟩), .pointer (some ⟨g, 0, none⟩), .pointer (some ⟨g, 3, none⟩), .slice (some ⟨gt, 0, none⟩) Q.length cap, .agg #[.int .i64 (X : Int), .int .i64 (Y : Int), .int .i64 (CW : Int), .int .i64 (CH : Int)], .func (.func 58) #[] #[.pointer (some ⟨M + 1, 0, none⟩), .pointer (some ⟨M, 0, none⟩)], .int .i64 x.k, .slice (some ⟨x.p, X, none⟩) CW (W - X), undef, undef, undef, undef, undef, undef, undef, undef, undef, undef], defers := [] })
    ?assign ?body ?done ?stop
  case hseq => exact cells_iter _ 0 M (M + 1) gt W cap X Y CW CH Q W0 hW hQ h1 h2 h3 hbr hbc
  case hX => intro pre x W L o o' h _ _; exact h
  case hRd =>
    rintro pre O A ⟨rfl, hst, _⟩
    exact fun k p hp => (cell_eq (p := ⟨gt, k, none⟩) (hst.1.2 gt (by omega) hnt)).trans (ho1 k p hp)
  case hI =>
    rintro pre O A B ⟨rfl, hst, hr'⟩ hs
    exact ⟨rfl, hst.trans hs (fun k hk => .inr (by have := hk.2; omega)), hr'.same (fun p hp => hs.1.2 p (by have := hQlt p hp; have := hst.size; omega) (fun e => e.2 (by have := hQlt p hp; omega)))⟩
  case hIx =>
    intro c pre O A B h
    exact h.elim
  case hT0 =>
    rintro k (rfl | rfl)
    · exact ⟨Nat.zero_le _, by omega⟩
    · exact ⟨Nat.zero_le _, by omega⟩
  case hO => exact fun k hk => ⟨Nat.zero_le _, by omega, by omega⟩
  case h0 => exact ⟨rfl, Step.of_below (by rw [← hM]; exact hk0) _, by rw [List.length_nil, setR_zero]; exact hr1.same (fun p hp => hk0.block p (by have := hQlt p hp; omega))⟩
  case assign =>
    clear hM hz hsz0
    intro L x W' K hK
    simp only [Rw.encs]
    gi_wp2
    exact hK
  case body =>
    rintro L pre x O A ⟨rfl, hst, hr'⟩ ⟨hxk, hxp, _⟩ hO hsz
    have hxq := List.mem_of_getElem? hxp
    have hrow : A.heap[x.p]? = some (.cells (boolsA W (fun z => if X ≤ z ∧ z < X + 0 then b else tk (Y + pre.length) z)) 4 (0, 0)) := by
      rw [hr' _ _ hxp]
      congr 2
      refine boolsA_congr (fun z hz => ?_)
      unfold setR
      rw [if_neg (by omega), if_neg (by omega)]
    have hyA : A.heap[w.heap.size + 1]? = some (.cells #[.bool b] 4 (0, 0)) := hst.same hy (fun e => by have := hQlt _ e; omega)
    have HROW := Lib.hid hrow
    have HYA := Lib.hid hyA
    have HST := Lib.hid hst
    have HRR := Lib.hid hr'
    have HXP := Lib.hid hxp
    have HO := Lib.hid hO
    clear hrow hyA hst hr' hxp hO
    clear hM hz hsz0
    gi_wp2
    gi_loopw [19] (fun v19 wr => ∃ i : Nat, v19 = .int .i64 (i : Int) ∧ i ≤ CW ∧ Step (fun k => k = x.p) A wr ∧ wr.heap[x.p]? = some (.cells (boolsA W (fun z => if X ≤ z ∧ z < X + i then b else tk (Y + pre.length) z)) 4 (0, 0))) (fun v19 _ => ((CW : Int) - intOf v19).toNat)
    case atStart => exact ⟨0, rfl, Nat.zero_le _, Step.refl _ _, HROW.out⟩
    case round =>
      obtain ⟨i, rfl, hi, hs, hp⟩ := hrel
      have HS := Lib.hid hs
      have HP := Lib.hid hp
      by_cases hlt : i < CW
      · have t1 : decide ((i : Int) < (CW : Int)) = true := decide_eq_true (by omega)
        have i1 : ((0 : Int) ≤ (i : Int)) = True := eq_true (by omega)
        have i2 : ((i : Int) < (CW : Int)) = True := eq_true (by omega)
        have c5_ : wr.cell? ⟨w.heap.size + 1, 0, none⟩ = some (.bool b) := ckA (hs.same HYA.out (fun e => by have h1 := hQlt _ hxq; omega)) 0 _ rfl
        have cx : wr.cell? ⟨x.p, X + i, none⟩ = some _ := ckA hp (X + i) _ (boolsA_get _ _ _ (by omega))
        have fx : wr.frozen? ⟨x.p, X + i, none⟩ = false := free_of_one hp _
        have hw := sum1 i (by omega)
        have HLT := Lib.hid hlt
        obtain ⟨hw1_, hw2_⟩ := hw
        clear hs hp hi hlt
        gi_wp2
        refine ⟨⟨i + 1, by first | rfl | rw [hw2_], HLT.out, HS.out.setCell (p := ⟨x.p, X + i, none⟩) (.inl rfl) _, ?_⟩, ?_⟩
        · clear hw1_ hw2_
          have hc := cell_setB HP.out (X + i) (.bool b)
          rw [boolsA_set] at hc
          rw [hc]
          congr 2
          refine boolsA_congr (fun z hz => ?_)
          by_cases e : z = X + i
          · subst e
            rw [if_pos rfl, if_pos (by omega)]
          · rw [if_neg e]
            by_cases c : X ≤ z ∧ z < X + i
            · rw [if_pos c, if_pos (by omega)]
            · rw [if_neg c, if_neg (by omega)]
        · clear hw1_ hw2_
          have := HLT.out
          simp only [intOf]
          omega
      · have t1 : decide ((i : Int) < (CW : Int)) = false := decide_eq_false (by omega)
        have hie : i = CW := by omega
        subst hie
        clear hs hp hi hlt
        gi_wp2
        refine ⟨_, ⟨rfl, HST.out.trans HS.out (fun k e => by subst e; exact .inl hxq), ?_⟩, fun k h => .inl h, fun k h => Nat.lt_of_lt_of_le (HO.out k h).2 HS.out.size, HS.out.mono (fun k e => by subst e; have h1 := hQlt _ hxq; have h2 := HM.out; have h3 := HZ.out; omega)⟩
        rw [List.length_append, List.length_singleton]
        exact HRR.out.next hn HXP.out (fun q hq hne => HS.out.1.2 q (by have h1 := hQlt _ hq; have h2 := HST.out.size; have h3 := HZ.out; omega) hne) HP.out
  case done =>
    rintro D xs O A hD hS ⟨rfl, hst, hr'⟩ hOD hK
    have hS' : xs.length = CH := hS
    clear hM hz
    gi_wp2
    refine ⟨by simp, .inl ⟨_, _, rfl, run_takeDeferred hK, ?_⟩⟩
    have hstD := Step.putObj A D (.deferred none)
    have hDlt : W0.heap.size ≤ D := hD
    refine ⟨_, results_none rfl _ _ _, rfl, ?_, ?_⟩
    · rw [hS'] at hr'
      exact hr'.same (fun p hp => hstD.1.2 p (by have h1 := hQlt _ hp; have h2 := hst.size; have h3 := HZ.out; omega) (fun e => by have h1 := hQlt _ hp; have h2 := HZ0.out; have h3 := HM.out; have h4 := HZ.out; omega))
    · exact ((Step.of_below hB _).trans hst (fun k hk => .inl hk)).trans hstD (fun k e => by subst e; have h2 := HZ0.out; have h3 := HM.out; have h4 := HZ.out; exact .inr (by omega))
  case stop =>
    intro D c pre O A hD hS h
    exact h.elim
end Go.Proofs.Ytoleencecfjcjaa.At

/- slices.Contains of bools; place. -/
set_option linter.unusedVariables false
set_option linter.unusedSimpArgs false
namespace Go.Proofs.Ytoleencecfjcjaa.At
open Go.RowKit Go.Proofs.YtoleencecfjcjaaW.PrintWords Go.Proofs.YtoleencecfjcjaaW.PrintLast Go.Proofs.Ytoleencecfjcjaa.Rng
def anyB (f : Nat → Bool) (X n : Nat) : Bool := (List.range n).any (fun j => f (X + j))
theorem anyB_succ (f : Nat → Bool) (X n : Nat) : anyB f X (n + 1) = (anyB f X n || f (X + n)) := by
  unfold anyB
  rw [List.range_succ]
  simp
theorem anyB_mem {f : Nat → Bool} {X n j : Nat} (hj : j < n) (h : f (X + j) = true) : anyB f X n = true := List.any_eq_true.2 ⟨j, List.mem_range.2 hj, h⟩
set_option maxHeartbeats 4000000 in
set_option maxRecDepth 100000 in
theorem Index_c (p X CW W cap : Nat) (f : Nat → Bool) (w : World) (hW : W ≤ 128) (h1 : X + CW ≤ W) (hp : w.heap[p]? = some (.cells (boolsA W f) 4 (0, 0))) :
    Calls Try.prog 64 #[.slice (some ⟨p, X, none⟩) CW cap, .bool true] w fun e w' => ∃ r : Int, e = .returned (.int .i64 r) ∧ decide (0 ≤ r) = anyB f X CW ∧ Below w.heap.size w w' := by
  have HP := Lib.hid hp
  clear hp
  go_enter Try.func64, Try.ntmps64
  go_wp2
  go_loopg [8] (CW + 1) (fun kq v8 w' => ∃ j : Nat, v8 = .int .i64 (j : Int) ∧ j + kq = CW + 1 ∧ j ≤ CW ∧ anyB f X j = false ∧ Below w.heap.size w w')
  case atStart => exact ⟨0, rfl, by omega, by omega, rfl, Below.refl _ _⟩
  case round =>
    obtain ⟨j, rfl, hj, hjl, ha, hb⟩ := hrel
    have HA := Lib.hid ha
    have HB := Lib.hid hb
    have HJ := Lib.hid (show j + gk = CW + 1 ∧ j ≤ CW from ⟨hj, hjl⟩)
    by_cases c0 : j < CW
    · have d1 : decide ((j : Int) < (CW : Int)) = true := decide_eq_true (by omega)
      have i1 : ((0 : Int) ≤ (j : Int)) = True := eq_true (by omega)
      have i2 : ((j : Int) < (CW : Int)) = True := eq_true (by omega)
      have HC := Lib.hid c0
      have cx : wr.cell? ⟨p, X + j, none⟩ = some (.bool (f (X + j))) := ckA (blk_below HP.out hb) (X + j) _ (boolsA_get _ _ _ (by omega))
      have hs := anyB_succ f X j
      rw [ha, Bool.false_or] at hs
      have HS := Lib.hid hs
      obtain ⟨x, hx⟩ : ∃ x, x = f (X + j) := ⟨_, rfl⟩
      rw [← hx] at cx
      have HX := Lib.hid hx
      have HE := Lib.hid (sum1 j (by omega))
      clear ha hb hj hjl c0 hs hx
      cases x with
      | true =>
        go_wp2
        go_ret
        exact ⟨(j : Int), rfl, by rw [anyB_mem HC.out HX.out.symm]; exact decide_eq_true (by omega), HB.out⟩
      | false =>
        cases gk with
        | zero => exact absurd HJ.out (by omega)
        | succ kk =>
          obtain ⟨e1, e2⟩ := HE.out
          go_wp2
          go_roundg kk
          case measure => omega
          case rel => exact ⟨j + 1, by first | rfl | rw [e2], by have := HJ.out; omega, by have := HC.out; omega, by rw [HS.out]; exact HX.out.symm, HB.out⟩
    · have d1 : decide ((j : Int) < (CW : Int)) = false := decide_eq_false (by omega)
      have hje : j = CW := by omega
      subst hje
      clear ha hb hj hjl c0
      go_wp2
      go_ret
      exact ⟨-1, rfl, by rw [HA.out]; rfl, HB.out⟩
set_option maxHeartbeats 4000000 in
set_option maxRecDepth 100000 in
theorem Contains_c (p X CW W cap : Nat) (f : Nat → Bool) (w : World) (hW : W ≤ 128) (h1 : X + CW ≤ W) (hp : w.heap[p]? = some (.cells (boolsA W f) 4 (0, 0))) :
    Calls Try.prog 57 #[.slice (some ⟨p, X, none⟩) CW cap, .bool true] w fun e w' => e = .returned (.bool (anyB f X CW)) ∧ Below w.heap.size w w' := by
  go_enter Try.func57, Try.ntmps57
  go_wp2_with (go_at_call 64; refine (Index_c p X CW W cap f _ hW h1 hp).mono ?_; rintro e w1 ⟨r, rfl, hr, hb⟩; have HR := Lib.hid hr; have HB1 := Lib.hid hb; clear hr hb)
  go_ret
  exact ⟨by rw [← HR.out]; rfl, HB1.out⟩
end Go.Proofs.Ytoleencecfjcjaa.At

/- A scope (a function with a label), behind a fence: straight through. No program in it. -/
set_option linter.unusedVariables false
namespace Go.Proofs.Ytoleencecfjcjaa.Rng
section
variable {F : Fence} {n : Nat} {P : Program} {b : Frame} {a : Act} {k : List Item} {cs : List Frame} {w : World} {Q : Exit → Act → World → Prop}
theorem stepR_scope {c : Code} : step P (lone (b.atR a (.code (.scope c) :: k)) cs w) = .next (lone (b.atR a (.code c :: .inScope c :: k)) cs w) :=
  step_lone_go (by simp [stepG, stepG.exec, Frame.atR])
theorem stepR_inScope {c : Code} : step P (lone (b.atR a (.inScope c :: k)) cs w) = .next (lone (b.atR a k) cs w) :=
  step_lone_go (by simp [stepG, stepG.exec, Frame.atR])
theorem wpIn_scope {c : Code} (h : c.wpIn F n P (Exit.noGoto Q) a w) : (Code.scope c).wpIn F n P Q a w := by
  intro b k cs hro hb hr
  have h0 : (lone (b.atR a (.code (.scope c) :: k)) cs w).fenced P F := fenced_calm hb hr rfl
  obtain ⟨e, a₁, w₁, hq, harr⟩ := h b (.inScope c :: k) cs hro hb hr
  cases e with
  | normal => exact ⟨.normal, a₁, w₁, hq, .head h0 stepR_scope (StepsIn.trans harr (.one (fenced_calm hb hr rfl) stepR_inScope))⟩
  | exit id =>
    have hx : exitTo id (.inScope c :: k) = exitTo id k := by simp [exitTo]
    exact ⟨.exit id, a₁, w₁, hq, fun k' hk => .head h0 stepR_scope (harr.1 k' (by rw [hx]; exact hk)), fun hr' hk => let ⟨k₁, h1, h2⟩ := harr.2 hr' (by rw [hx]; exact hk); ⟨k₁, h1, .head h0 stepR_scope h2⟩⟩
  | goto l => exact hq.elim
  | ret => exact ⟨_, a₁, w₁, hq, .of_steps (.one h0 stepR_scope) harr⟩
  | panic ch => exact ⟨_, a₁, w₁, hq, .of_steps (.one h0 stepR_scope) harr⟩
  | outgrown => exact ⟨_, a₁, w₁, hq, .of_steps (.one h0 stepR_scope) harr⟩
end
end Go.Proofs.Ytoleencecfjcjaa.Rng

/- place. -/
set_option linter.unusedVariables false
set_option linter.unusedSimpArgs false
namespace Go.Proofs.Ytoleencecfjcjaa.At
open Go.RowKit Go.Proofs.YtoleencecfjcjaaW.PrintWords Go.Proofs.YtoleencecfjcjaaW.PrintLast Go.Proofs.Ytoleencecfjcjaa.Rng
attribute [local go_sem] Oper.semAt_some
/-- What a function has put off: lists of deferred calls, all empty. -/
structure Marks (N : Nat) (ds : List Deferred) (w : World) : Prop where
  each : ∀ d ∈ ds, ∃ D, d = { target := .collected D, args := #[] } ∧ N ≤ D ∧ w.heap[D]? = some (.deferred (some []))
  apart : ds.Pairwise (fun a b => a.target ≠ b.target)
theorem Marks.step {N : Nat} {ds : List Deferred} {w w' : World} {T : Nat → Prop} (h : Marks N ds w) (hs : Step T w w') (hT : ∀ k, T k → k < N ∨ w.heap.size ≤ k) : Marks N ds w' := by
  refine ⟨fun d hd => ?_, h.apart⟩
  obtain ⟨D, h1, h2, h3⟩ := h.each d hd
  exact ⟨D, h1, h2, hs.same h3 (fun e => by have := lt_of_blk h3; rcases hT D e with h | h <;> omega)⟩
theorem Marks.more {N D : Nat} {ds : List Deferred} {w w' : World} {T : Nat → Prop} (h : Marks N ds w) (hs : Step T w w') (hT : ∀ k, T k → k < N ∨ w.heap.size ≤ k) (hD : w.heap.size ≤ D) (hN : N ≤ D) (hK : w'.heap[D]? = some (.deferred (some []))) : Marks N ({ target := .collected D, args := #[] } :: ds) w' := by
  have h' := h.step hs hT
  refine ⟨fun d hd => ?_, List.pairwise_cons.2 ⟨fun d hd e => ?_, h.apart⟩⟩
  · rcases List.mem_cons.1 hd with rfl | hd
    · exact ⟨D, rfl, hN, hK⟩
    · exact h'.each d hd
  · obtain ⟨D', rfl, h2, h3⟩ := h.each d hd
    have := lt_of_blk h3
    injection e with e
    omega
theorem leave_marks {F : Fence} {n : Nat} {P : Program} {fn : Func} {tmps : Array Value} {R : Ending → World → Prop} {N : Nat} : ∀ {ds : List Deferred} {w : World}, Marks N ds w → (∀ w', Step (fun k => N ≤ k) w w' → ∃ v, (results fn tmps).run P w' = .ok v w' ∧ R (.returned v) w') → LeavesInM F n P fn tmps R ds .returning w
  | [], w, _, h => h w (Step.refl _ _)
  | d :: ds, w, hm, h => by
    obtain ⟨D, rfl, h2, h3⟩ := hm.each d List.mem_cons_self
    refine ⟨by simp, .inl ⟨D, _, rfl, run_takeDeferred h3, leave_marks (N := N) ⟨fun d' hd' => ?_, (List.pairwise_cons.1 hm.apart).2⟩ (fun w' hs => h w' (((Step.putObj w D (.deferred none)).mono (fun k e => by subst e; exact h2)).trans hs (fun k e => .inl e)))⟩⟩
    obtain ⟨D', rfl, g2, g3⟩ := hm.each d' (List.mem_cons_of_mem _ hd')
    exact ⟨D', rfl, g2, (Step.putObj w D (.deferred none)).same g3 (fun e => (List.pairwise_cons.1 hm.apart).1 _ hd' (by rw [e]))⟩
theorem cell_set4 {w : World} {b : Nat} {a0 a1 a2 a3 v0 v1 v2 v3 : Value} {T : TypeId} (h : w.heap[b]? = some (.cells #[a0, a1, a2, a3] T (0, 0))) :
    ((((w.setCell ⟨b, 0, none⟩ v0).setCell ⟨b, 1, none⟩ v1).setCell ⟨b, 2, none⟩ v2).setCell ⟨b, 3, none⟩ v3).heap[b]? = some (.cells #[v0, v1, v2, v3] T (0, 0)) := cell_setB (cell_setB (cell_setB (cell_setB h 0 v0) 1 v1) 2 v2) 3 v3
theorem step_set4 (w : World) (b : Nat) (v0 v1 v2 v3 : Value) : Step (fun k => k = b) w ((((w.setCell ⟨b, 0, none⟩ v0).setCell ⟨b, 1, none⟩ v1).setCell ⟨b, 2, none⟩ v2).setCell ⟨b, 3, none⟩ v3) :=
  (((((Step.refl (fun k => k = b) w).setCell (p := ⟨b, 0, none⟩) (.inl rfl) v0).setCell (p := ⟨b, 1, none⟩) (.inl rfl) v1).setCell (p := ⟨b, 2, none⟩) (.inl rfl) v2).setCell (p := ⟨b, 3, none⟩) (.inl rfl) v3)
theorem inf4 {cs : Array Value} (h : cs.size = 4) : (Try.prog.info? 43).map (·.size) = some cs.size := by rw [h]; kernel_rfl
set_option maxRecDepth 100000 in
set_option maxHeartbeats 8000000 in
theorem place_c {w : World} {g gt W cap CW CH : Nat} {Q : List Nat} {tk : Nat → Nat → Bool} {c2 c4 c5 : Value} {L : List En} (hW : W ≤ 128) (hQ : Q.length ≤ 128) (hw1 : 1 ≤ CW) (hh1 : 1 ≤ CH) (hw2 : CW ≤ W) (hh2 : CH ≤ Q.length)
    (hg : w.heap[g]? = some (.cells #[.int .i64 (W : Int), .int .i64 (Q.length : Int), c2, .slice (some ⟨gt, 0, none⟩) Q.length cap, c4, c5] 64 (0, 0))) (ho : Outer gt W Q w) (hgt : gt < w.heap.size) (hr : Rows Q W tk w)
    (hT : ∀ x y : Nat, x + CW ≤ W → y + CH ≤ Q.length → (free L ⟨(x : Int), (y : Int), (CW : Int), (CH : Int)⟩ = true ↔ ∀ i, i < CH → anyB (tk (y + i)) x CW = false)) :
    Calls Try.prog 39 #[.pointer (some ⟨g, 0, none⟩), .int .i64 (CW : Int), .int .i64 (CH : Int)] w fun e w' => ((∃ c : Rc, placeP L W Q.length CW CH = some c ∧ e = .returned (.tuple #[.agg #[.int .i64 c.x, .int .i64 c.y, .int .i64 c.w, .int .i64 c.h], .bool true])) ∨ placeP L W Q.length CW CH = none ∧ e = .returned (.tuple #[.agg #[.int .i64 0, .int .i64 0, .int .i64 0, .int .i64 0], .bool false])) ∧ Below w.heap.size w w' := by
  refine (callsIn_wide (n := 3)).1 ?_
  refine callsIn_of_wp_marks Try.func39 rfl trivial ?_ rfl
  simp only [Try.ntmps39, List.size_toArray, List.length_cons, List.length_nil, Nat.reduceAdd, Nat.reduceSub, Array.replicate_succ, Array.replicate_zero, List.push_toArray, List.append_toArray, List.nil_append, List.cons_append]
  gi_wp2
  obtain ⟨I1, HI1⟩ : ∃ I : Act → World → Prop, Hid (I = (fun a' w' => ∃ (y : Nat) (u9 u10 u11 u12 u13 u14 u15 u16 u17 u18 u19 u20 u21 u22 u23 u24 u25 u26 u27 u28 u29 u30 u31 u32 u33 u34 u35 u36 u37 u38 u39 u40 u41 u42 u43 u44 u45 u46 u47 u48 u49 : Value) (ds : List Deferred), y + CH ≤ Q.length + 1 ∧ colP L W CW CH (Q.length + 1 - CH - y) (y : Int) = placeP L W Q.length CW CH ∧ Marks (w.heap.size + 1) ds w' ∧ w'.heap[w.heap.size]? = some (.cells #[.int .i64 0, .int .i64 0, .int .i64 0, .int .i64 0] 43 (0, 0)) ∧ Below w.heap.size w w' ∧ a' = { tmps := #[.pointer (some ⟨g, 0, none⟩), .int .i64 (CW : Int), .int .i64 (CH : Int), undef, undef, undef, .pointer (some ⟨w.heap.size, 0, none⟩), .bool false, .int .i64 (y : Int), u9, u10, u11, u12, u13, u14, u15, u16, u17, u18, u19, u20, u21, u22, u23, u24, u25, u26, u27, u28, u29, u30, u31, u32, u33, u34, u35, u36, u37, u38, u39, u40, u41, u42, u43, u44, u45, u46, u47, u48, u49], defers := ds })) := ⟨_, Lib.hid rfl⟩
  obtain ⟨m1, Hm1⟩ : ∃ m : Act → World → Nat, Hid (m = (fun a' _ => ((Q.length : Int) + 1 - intOf (a'.tmps.getD 8 undef)).toNat)) := ⟨_, Lib.hid rfl⟩
  refine wpIn_loop I1 m1 ?_ ?_
  · rw [HI1.out]
    refine ⟨0, _, _, _, _, _, _, _, _, _, _, _, _, _, _, _, _, _, _, _, _, _, _, _, _, _, _, _, _, _, _, _, _, _, _, _, _, _, _, _, _, _, [], by omega, ?_, ⟨by simp, List.Pairwise.nil⟩, blk_new w _, below_alloc (Below.refl _ _) _, rfl⟩
    unfold placeP
    congr 1
    omega
  · intro ay wy hi
    rw [HI1.out] at hi
    obtain ⟨y, u9, u10, u11, u12, u13, u14, u15, u16, u17, u18, u19, u20, u21, u22, u23, u24, u25, u26, u27, u28, u29, u30, u31, u32, u33, u34, u35, u36, u37, u38, u39, u40, u41, u42, u43, u44, u45, u46, u47, u48, u49, ds, hy, hcol, hm, hbx, hbw, rfl⟩ := hi
    have HB := Lib.hid hbw
    have HBX := Lib.hid hbx
    have HMK := Lib.hid hm
    have HCOL := Lib.hid hcol
    have hgy := blk_below hg hbw
    have c1 : wy.cell? ⟨g, 1, none⟩ = some (.int .i64 (Q.length : Int)) := ckA hgy 1 _ rfl
    have HS := Lib.hid (show IntKind.i64.wrap ((y : Int) + (CH : Int)) = (y : Int) + (CH : Int) ∧ wrap64 ((y : Int) + (CH : Int)) = (y : Int) + (CH : Int) from by have h := sumY y CH (by omega); rw [Int.natCast_add] at h; exact h)
    by_cases hlt : y + CH ≤ Q.length
    · have t1 : decide ((y : Int) + (CH : Int) ≤ (Q.length : Int)) = true := decide_eq_true (by omega)
      have HLT := Lib.hid hlt
      have HYY := Lib.hid hy
      clear hbx hm hcol hbw hlt hy
      obtain ⟨s1, s2⟩ := HS.out
      gi_wp2
      refine wpIn_scope ?_
      refine wpIn_seq (wpIn_label ?_)
      gi_wp2
      obtain ⟨I2, HI2⟩ : ∃ I : Act → World → Prop, Hid (I = (fun a' w' => ∃ (x : Nat) (u10 u11 u12 u13 u14 u15 u16 u17 u18 u19 u20 u21 u22 u23 u24 u25 u26 u27 u28 u29 u30 u31 u32 u33 u34 u35 u36 u37 u38 u39 u40 u41 u42 u43 u44 u45 u46 u47 u48 u49 : Value) (ds : List Deferred), x + CW ≤ W + 1 ∧ (rowP L CW CH (y : Int) (W + 1 - CW - x) (x : Int)).or (colP L W CW CH (Q.length - CH - y) ((y : Int) + 1)) = placeP L W Q.length CW CH ∧ Marks (w.heap.size + 1) ds w' ∧ w'.heap[w.heap.size]? = some (.cells #[.int .i64 0, .int .i64 0, .int .i64 0, .int .i64 0] 43 (0, 0)) ∧ Below w.heap.size w w' ∧ a' = { tmps := #[.pointer (some ⟨g, 0, none⟩), .int .i64 (CW : Int), .int .i64 (CH : Int), undef, undef, undef, .pointer (some ⟨w.heap.size, 0, none⟩), .bool false, .int .i64 (y : Int), .int .i64 (x : Int), u10, u11, u12, u13, u14, u15, u16, u17, u18, u19, u20, u21, u22, u23, u24, u25, u26, u27, u28, u29, u30, u31, u32, u33, u34, u35, u36, u37, u38, u39, u40, u41, u42, u43, u44, u45, u46, u47, u48, u49], defers := ds })) := ⟨_, Lib.hid rfl⟩
      obtain ⟨m2, Hm2⟩ : ∃ m : Act → World → Nat, Hid (m = (fun a' _ => ((W : Int) + 1 - intOf (a'.tmps.getD 9 undef)).toNat)) := ⟨_, Lib.hid rfl⟩
      refine wpIn_loop I2 m2 ?_ ?_
      · rw [HI2.out]
        refine ⟨0, _, _, _, _, _, _, _, _, _, _, _, _, _, _, _, _, _, _, _, _, _, _, _, _, _, _, _, _, _, _, _, _, _, _, _, _, _, _, _, _, ds, by omega, ?_, HMK.out, HBX.out, HB.out, rfl⟩
        rw [← HCOL.out]
        have h1 := HLT.out
        rw [show Q.length + 1 - CH - y = (Q.length - CH - y) + 1 by omega, colP]
        congr 2
        omega
      · clear HMK HBX HB
        intro ax wx hi
        rw [HI2.out] at hi
        obtain ⟨x, u10, u11, u12, u13, u14, u15, u16, u17, u18, u19, u20, u21, u22, u23, u24, u25, u26, u27, u28, u29, u30, u31, u32, u33, u34, u35, u36, u37, u38, u39, u40, u41, u42, u43, u44, u45, u46, u47, u48, u49, ds2, hx, hrow, hm, hbx, hbw, rfl⟩ := hi
        have HB := Lib.hid hbw
        have HBX := Lib.hid hbx
        have HMK := Lib.hid hm
        have HROW := Lib.hid hrow
        have hgx := blk_below hg hbw
        have c0 : wx.cell? ⟨g, 0, none⟩ = some (.int .i64 (W : Int)) := ckA hgx 0 _ rfl
        have HGX := Lib.hid hgx
        have HT2 := Lib.hid (show IntKind.i64.wrap ((x : Int) + (CW : Int)) = (x : Int) + (CW : Int) ∧ wrap64 ((x : Int) + (CW : Int)) = (x : Int) + (CW : Int) from by have h := sumY x CW (by omega); rw [Int.natCast_add] at h; exact h)
        by_cases hlx : x + CW ≤ W
        · have t2 : decide ((x : Int) + (CW : Int) ≤ (W : Int)) = true := decide_eq_true (by omega)
          have HLX := Lib.hid hlx
          have HXX := Lib.hid hx
          clear hbx hm hrow hbw hlx hx hgx hgy
          obtain ⟨r1, r2⟩ := HT2.out
          gi_wp2
          obtain ⟨w1, hw1⟩ : ∃ V, V = wx.alloc (.cells #[.int .i64 (x : Int), .int .i64 (y : Int), .int .i64 (CW : Int), .int .i64 (CH : Int)] 43) := ⟨_, rfl⟩
          have hxb : w1.heap[wx.heap.size]? = some (.cells #[.int .i64 (x : Int), .int .i64 (y : Int), .int .i64 (CW : Int), .int .i64 (CH : Int)] 43 (0, 0)) := by rw [hw1]; exact blk_new wx _
          have hz : w1.heap.size = wx.heap.size + 1 := by rw [hw1]; simp
          have hB1 : Below wx.heap.size wx w1 := by rw [hw1]; exact below_alloc (Below.refl _ _) _
          have hg1 := blk_below HGX.out hB1
          rw [← hw1]
          have q3 : w1.drew.cell? ⟨g, 3, none⟩ = some (.slice (some ⟨gt, 0, none⟩) Q.length cap) := ckA hg1 3 _ rfl
          have x0 : w1.drew.cell? ⟨wx.heap.size, 0, none⟩ = some (.int .i64 (x : Int)) := ckA hxb 0 _ rfl
          have x1 : w1.drew.cell? ⟨wx.heap.size, 1, none⟩ = some (.int .i64 (y : Int)) := ckA hxb 1 _ rfl
          have x2 : w1.drew.cell? ⟨wx.heap.size, 2, none⟩ = some (.int .i64 (CW : Int)) := ckA hxb 2 _ rfl
          have x3 : w1.drew.cell? ⟨wx.heap.size, 3, none⟩ = some (.int .i64 (CH : Int)) := ckA hxb 3 _ rfl
          have HXB := Lib.hid hxb
          have HZ := Lib.hid hz
          have HB1 := Lib.hid hB1
          clear hw1 hxb hz hB1 hg1 c0 c1 r1 r2 t1 t2
          refine sN (m := 6) (S := fun w' => w'.cell? ⟨g, 3, none⟩ = some (.slice (some ⟨gt, 0, none⟩) Q.length cap) ∧ w'.cell? ⟨wx.heap.size, 0, none⟩ = some (.int .i64 (x : Int)) ∧ w'.cell? ⟨wx.heap.size, 1, none⟩ = some (.int .i64 (y : Int)) ∧ w'.cell? ⟨wx.heap.size, 2, none⟩ = some (.int .i64 (CW : Int)) ∧ w'.cell? ⟨wx.heap.size, 3, none⟩ = some (.int .i64 (CH : Int))) (ds := [5]) #[false, false, false, false, false, false] (by kernel_rfl) rfl rfl ⟨q3, x0, x1, x2, x3⟩ (fun hHeld => ?_)
          refine pR (i := 0) (N := some 38) (v := ?_) (a' := ?_) #[true, false, false, false, false, false] rfl rfl (by kernel_rfl) (Or.inl ⟨by rfl, ?_⟩) ?_ ?_
          rotate_left
          · intro w'
            go_simp
            with_reducible rfl
          rotate_left
          · simp only [Act.put, List.setIfInBounds_toArray, List.set_cons_zero, List.set_cons_succ, i64_w, i32_w]
            rfl
          refine pR (i := 1) (N := some 39) (v := ?_) (a' := ?_) #[true, true, false, false, false, false] rfl rfl (by kernel_rfl) (Or.inl ⟨by rfl, ?_⟩) ?_ ?_
          rotate_left
          · intro w'
            go_simp
            with_reducible rfl
          rotate_left
          · simp only [Act.put, List.setIfInBounds_toArray, List.set_cons_zero, List.set_cons_succ, i64_w, i32_w]
            rfl
          refine pR (i := 2) (N := some 40) (v := ?_) (a' := ?_) #[true, true, true, false, false, false] rfl rfl (by kernel_rfl) (Or.inl ⟨by rfl, ?_⟩) ?_ ?_
          rotate_left
          · intro w'
            go_simp
            with_reducible rfl
          rotate_left
          · simp only [Act.put, List.setIfInBounds_toArray, List.set_cons_zero, List.set_cons_succ, i64_w, i32_w]
            rfl
          refine tR (i := 3) (N := some 41) (v := ?_) (a' := ?_) #[true, true, true, true, false, false] rfl rfl (by kernel_rfl) (Or.inl ⟨by rfl, ?_⟩) hHeld ?_ ?_
          rotate_left
          · rintro w' ⟨s0, s1, s2, s3, s4⟩
            go_simp
            with_reducible rfl
          rotate_left
          · simp only [Act.put, List.setIfInBounds_toArray, List.set_cons_zero, List.set_cons_succ, i64_w, i32_w]
            rfl
          refine tR (i := 4) (N := some 42) (v := ?_) (a' := ?_) #[true, true, true, true, true, false] rfl rfl (by kernel_rfl) (Or.inl ⟨by rfl, ?_⟩) hHeld ?_ ?_
          rotate_left
          · rintro w' ⟨s0, s1, s2, s3, s4⟩
            go_simp
            with_reducible rfl
          rotate_left
          · simp only [Act.put, List.setIfInBounds_toArray, List.set_cons_zero, List.set_cons_succ, i64_w, i32_w]
            rfl
          refine lR (i := 5) (N := some 43) #[true, true, true, true, true, true] rfl rfl (by kernel_rfl) (by decide) (by rfl) (fun K hK => ?_)
          refine ⟨fun f _ => trivial, ?_⟩
          go_simp
          refine (callsIn_wide.2 (cells_any (some ⟨gt, 0, none⟩) Q.length cap (x : Int) (y : Int) (CW : Int) (CH : Int) _)).mono ?_
          rintro e0 W0 ⟨rfl, hW0⟩
          have HW0 := Lib.hid hW0
          clear hW0
          refine hK _ _ ?_
          clear hK K
          refine dN (by kernel_rfl) ?_
          gi_wp2
          obtain ⟨M, hM⟩ : ∃ M, M = w1.heap.size := ⟨_, rfl⟩
          have hMd : w1.drew.heap.size = M := hM.symm
          have hW0 := HW0.out
          have hbr : W0.heap[M]? = some (.cells #[.slice (some ⟨gt, 0, none⟩) Q.length cap] 61 (0, 0)) := by rw [hW0, ← hMd]; exact blk_alloc (blk_new _ _) _
          have hbc : W0.heap[M + 1]? = some (.cells #[.int .i64 (x : Int), .int .i64 (y : Int), .int .i64 (CW : Int), .int .i64 (CH : Int)] 43 (0, 0)) := by
            have := blk_new (w1.drew.alloc (.cells #[.slice (some ⟨gt, 0, none⟩) Q.length cap] 61)) (.cells #[.int .i64 (x : Int), .int .i64 (y : Int), .int .i64 (CW : Int), .int .i64 (CH : Int)] 43)
            rw [hW0, ← hMd]
            simpa using this
          have hk0 : Below M w1 W0 := by rw [hW0, hM]; exact below_alloc (below_alloc (below_drew (Below.refl _ _)) _) _
          have hsz0 : M + 2 = W0.heap.size := by rw [hW0, ← hMd]; simp
          have hQlt : ∀ p, p ∈ Q → p < w.heap.size := fun p hp => by
            obtain ⟨k, hk⟩ := List.getElem?_of_mem hp
            exact lt_of_blk (hr k p hk)
          have hsw := HB.out.size
          have hBw := HB.out.trans (HB1.out.mono hsw)
          have ho1 : Outer gt W Q w1 := fun k p hp => (cell_eq (p := ⟨gt, k, none⟩) (hBw.block gt hgt)).trans (ho k p hp)
          have hr1 : Rows Q W tk w1 := hr.same (fun p hp => hBw.block p (hQlt p hp))
          rw [hMd]
          have HM := Lib.hid hM
          have HZ0 := Lib.hid hsz0
          clear hHeld q3 x0 x1 x2 x3 hW0 HW0 hMd
          refine wpIn_rangeR (encs := Rw.encs x CW W) (X := Rw.X Q y CH) (S := fun xs => xs.length = CH) (Sp := fun _ => True) (base := 0) (T0 := fun k => k = M + 1 ∨ k = M) (Rd := Outer gt W Q) rfl (fun h => absurd h (by simp [Fence.wide])) (gf := 58) (lb := #[.pointer (some ⟨M + 1, 0, none⟩), .pointer (some ⟨M, 0, none⟩)]) rfl trivial (enters_of Try.func58 (by kernel_rfl) rfl)
            ?hseq (fun _ => rfl) ?hX (fun pre O W' => O = (fun k => k < M) ∧ Step (fun _ => False) w1 W' ∧ (∀ i, i < pre.length → anyB (tk (y + i)) x CW = false)) (fun c pre O W' => c = .exit 3 ∧ O = (fun k => k < M) ∧ Step (fun _ => False) w1 W' ∧ ∃ i, i < CH ∧ anyB (tk (y + i)) x CW = true) ?hRd ?hI ?hIx (Nat.zero_le _) ?hT0 (fun k => k < M) ?hO ?h0
            (fun r => { tmps := #[.pointer (some ⟨g, 0, none⟩), .int .i64 (CW : Int), .int .i64 (CH : Int), undef, undef, undef, .pointer (some ⟨w.heap.size, 0, none⟩), .bool false, .int .i64 (y : Int), .int .i64 (x : Int), .pointer (some ⟨wx.heap.size, 0, none⟩), u11, .slice (some ⟨r.p, x, none⟩) CW (W - x), u13, u14, u15, u16, u17, u18, u19, u20, u21, u22, .int .i64 (x : Int), .int .i64 (CW : Int), .int .i64 ((x : Int) + (CW : Int)), .pointer (some ⟨g, 0, none⟩), .pointer (some ⟨g, 0, none⟩), .pointer (some ⟨g, 0, none⟩), .int .i64 (W : Int), .bool true, u31, u32, .int .i64 (x : Int), .int .i64 (y : Int), .int .i64 (CW : Int), .int .i64 (CH : Int), .agg #[.int .i64 (x : Int), .int .i64 (y : Int), .int .i64 (CW : Int), .int .i64 (CH : Int)], .pointer (some ⟨g, 0, none⟩), .pointer (some ⟨g, 0, none⟩), .pointer (some ⟨g, 3, none⟩), .slice (some ⟨gt, 0, none⟩) Q.length cap, .agg #[.int .i64 (x : Int), .int .i64 (y : Int), .int .i64 (CW : Int), .int .i64 (CH : Int)], .func (.func 58) #[] #[.pointer (some ⟨M + 1, 0, none⟩), .pointer (some ⟨M, 0, none⟩)], .int .i64 r.k, .slice (some ⟨r.p, x, none⟩) CW (W - x), u46, u47, u48, u49], defers := [] })
            ?assign ?body ?done ?stop
          case hseq => exact cells_iter _ 0 M (M + 1) gt W cap x y CW CH Q W0 hW hQ HLX.out HLT.out (.inr hw1) hbr hbc
          case hX => intro pre r W' l o o' h _ _; exact h
          case hRd =>
            rintro pre O A ⟨rfl, hst, _⟩
            exact fun k p hp => (cell_eq (p := ⟨gt, k, none⟩) (hst.1.2 gt (by have := HZ.out; omega) (fun h => h))).trans (ho1 k p hp)
          case hI =>
            rintro pre O A B ⟨rfl, hst, hr'⟩ hs
            exact ⟨rfl, hst.trans hs (fun k hk => .inr (by have := hk.2; omega)), hr'⟩
          case hIx =>
            rintro c pre O A B ⟨rfl, rfl, hst, hr'⟩ hs
            exact ⟨rfl, rfl, hst.trans hs (fun k hk => .inr (by have := hk.2; omega)), hr'⟩
          case hT0 =>
            rintro k (rfl | rfl)
            · exact ⟨Nat.zero_le _, by omega⟩
            · exact ⟨Nat.zero_le _, by omega⟩
          case hO => exact fun k hk => ⟨Nat.zero_le _, by omega, by omega⟩
          case h0 => exact ⟨rfl, Step.of_below (by rw [← hM]; exact hk0) _, fun i hi => absurd hi (Nat.not_lt_zero i)⟩
          case assign =>
            clear hM hsz0
            intro l r W' K hK
            simp only [Rw.encs]
            gi_wp2
            exact hK
          case body =>
            rintro l pre r O A ⟨rfl, hst, hr'⟩ ⟨hrk, hrp, hrl⟩ hO hsz
            have hrq := List.mem_of_getElem? hrp
            have hrow : A.heap[r.p]? = some (.cells (boolsA W (tk (y + pre.length))) 4 (0, 0)) := hst.same (hr1 _ _ hrp) (fun h => h)
            have HROWA := Lib.hid hrow
            have HST := Lib.hid hst
            have HRR := Lib.hid hr'
            have HRP := Lib.hid hrp
            have HO := Lib.hid hO
            clear hrow hst hr' hrp hO hM hsz0
            gi_wp2_with (refine ⟨trivial, ?_⟩; gi_at_call 57; refine (CallsIn.inRound l (callsIn_wide.2 (Contains_c r.p x CW W (W - x) (tk (y + pre.length)) _ hW HLX.out HROWA.out))).mono ?_; rintro e V ⟨rfl, hV⟩; have HV := Lib.hid hV; clear hV)
            · rename_i hb
              have hsV : Step (fun k => k < M) A V := Step.of_below HV.out _
              exact ⟨_, ⟨rfl, rfl, HST.out.trans (Step.of_below HV.out (fun _ => False)) (fun k h => h.elim), pre.length, hrl, hb⟩, fun k h => .inl h, fun k h => Nat.lt_of_lt_of_le (HO.out k h).2 HV.out.size, hsV⟩
            · rename_i hb
              have hsV : Step (fun k => k < M) A V := Step.of_below HV.out _
              refine ⟨_, ⟨rfl, HST.out.trans (Step.of_below HV.out (fun _ => False)) (fun k h => h.elim), fun i hi => ?_⟩, fun k h => .inl h, fun k h => Nat.lt_of_lt_of_le (HO.out k h).2 HV.out.size, hsV⟩
              rw [List.length_append, List.length_singleton] at hi
              rcases Nat.lt_succ_iff_lt_or_eq.1 hi with h | h
              · exact HRR.out i h
              · rw [h]
                exact hb
          case done =>
            rintro D xs O A hD hS ⟨rfl, hst, hr'⟩ hOD hK
            have hS' : xs.length = CH := hS
            have hxA := hst.same HXB.out (fun h => h)
            have hbA := hst.same (blk_below HBX.out HB1.out) (fun h => h)
            have y0 := ckA hxA 0 _ rfl
            have y1 := ckA hxA 1 _ rfl
            have y2 := ckA hxA 2 _ rfl
            have y3 := ckA hxA 3 _ rfl
            have z0 := ckA hbA 0 _ rfl
            have z1 := ckA hbA 1 _ rfl
            have z2 := ckA hbA 2 _ rfl
            have z3 := ckA hbA 3 _ rfl
            have f0 := free_of_one hbA 0
            have f1 := free_of_one hbA 1
            have f2 := free_of_one hbA 2
            have f3 := free_of_one hbA 3
            have HBA := Lib.hid hbA
            have HST := Lib.hid hst
            have HKK := Lib.hid hK
            have hfr : free L ⟨(x : Int), (y : Int), (CW : Int), (CH : Int)⟩ = true := (hT x y HLX.out HLT.out).2 (fun i hi => hr' i (by rw [hS']; exact hi))
            have HPS := Lib.hid (show placeP L W Q.length CW CH = some ⟨(x : Int), (y : Int), (CW : Int), (CH : Int)⟩ from by
              have h1 := HLX.out
              rw [← HROW.out, show W + 1 - CW - x = (W - CW - x) + 1 by omega, rowP, if_pos hfr]
              rfl)
            clear hbA hxA hst hr' hM hsz0 hfr
            gi_wp2
            have hset := step_set4 A w.heap.size (.int .i64 (x : Int)) (.int .i64 (y : Int)) (.int .i64 (CW : Int)) (.int .i64 (CH : Int))
            have hsz1 := HB.out.size
            have hsz2 := HB1.out.size
            have hst4 := (Step.of_below HB1.out (fun k => k = w.heap.size)).trans ((HST.out.mono (T' := fun k => k = w.heap.size) (fun k e => e.elim)).trans hset (fun k e => .inl e)) (fun k e => .inl e)
            refine leave_marks (HMK.out.more hst4 (fun k e => .inl (by omega)) (Nat.le_trans (by have := HM.out; have := HZ0.out; have := HZ.out; omega) hD) (Nat.le_trans (by have := HM.out; have := HZ0.out; have := HZ.out; omega) hD) (hset.same HKK.out (fun e => by have := HM.out; have := HZ0.out; have := HZ.out; omega))) (fun w' hs => ?_)
            have hb4 := hs.same (cell_set4 (v0 := .int .i64 (x : Int)) (v1 := .int .i64 (y : Int)) (v2 := .int .i64 (CW : Int)) (v3 := .int .i64 (CH : Int)) HBA.out) (fun e => by omega)
            refine ⟨_, results_ct rfl _ _ w.heap.size 43 _ (0, 0) _ rfl hb4 Try.underlying43 rfl (inf4 rfl), .inl ⟨_, HPS.out, rfl⟩, HB.out.trans (((hst4.mono (T' := fun k => w.heap.size ≤ k) (fun k e => by omega)).trans hs (fun k e => .inl (by omega))).below (fun k e => e) hsz1)⟩
          case stop =>
            rintro D c pre O A hD hS ⟨rfl, rfl, hst, hr'⟩ hOD hK
            obtain ⟨i, hi, hib⟩ := hr'
            have hfr : free L ⟨(x : Int), (y : Int), (CW : Int), (CH : Int)⟩ = false := by
              cases h : free L ⟨(x : Int), (y : Int), (CW : Int), (CH : Int)⟩ with
              | false => rfl
              | true =>
                have := (hT x y HLX.out HLT.out).1 h i hi
                rw [hib] at this
                cases this
            have HST := Lib.hid hst
            have HKK := Lib.hid hK
            have HFR := Lib.hid hfr
            obtain ⟨q1, q2⟩ := sum1 x (by have := HLX.out; omega)
            clear hst hM hsz0 hfr hi hib
            gi_wp2
            clear q1 q2
            have hsz1 := HB.out.size
            have hsz2 := HB1.out.size
            have hst4 := (Step.of_below HB1.out (fun _ => False)).trans HST.out (fun k e => .inl e)
            refine ⟨?_, ?_⟩
            · rw [HI2.out]
              refine ⟨x + 1, _, _, _, _, _, _, _, _, _, _, _, _, _, _, _, _, _, _, _, _, _, _, _, _, _, _, _, _, _, _, _, _, _, _, _, _, _, _, _, _, _, by rw [Nat.add_right_comm]; exact Nat.succ_le_succ HLX.out, ?_, HMK.out.more hst4 (fun k e => e.elim) (Nat.le_trans (by have := HM.out; have := HZ0.out; have := HZ.out; omega) hD) (Nat.le_trans (by have := HM.out; have := HZ0.out; have := HZ.out; omega) hD) HKK.out, hst4.same HBX.out (fun h => h), HB.out.trans (hst4.below (fun k e => e.elim) hsz1), rfl⟩
              have h1 := HLX.out
              rw [← HROW.out, show W + 1 - CW - x = (W + 1 - CW - (x + 1)) + 1 by omega, rowP, if_neg (by rw [HFR.out]; exact Bool.false_ne_true)]
              rfl
            · rw [Hm2.out]
              have := HLX.out
              show ((W : Int) + 1 - ((x : Int) + 1)).toNat < ((W : Int) + 1 - (x : Int)).toNat
              omega
        · have t2 : decide ((x : Int) + (CW : Int) ≤ (W : Int)) = false := decide_eq_false (by omega)
          have HXX := Lib.hid hx
          have HLX := Lib.hid hlx
          clear hbx hm hrow hbw hlx hx hgx hgy
          obtain ⟨r1, r2⟩ := HT2.out
          obtain ⟨q1, q2⟩ := sum1 y (by have := HLT.out; omega)
          gi_wp2
          refine ⟨?_, ?_⟩
          rw [HI1.out]
          refine ⟨y + 1, _, _, _, _, _, _, _, _, _, _, _, _, _, _, _, _, _, _, _, _, _, _, _, _, _, _, _, _, _, _, _, _, _, _, _, _, _, _, _, _, _, ds2, by rw [Nat.add_right_comm]; exact Nat.succ_le_succ HLT.out, ?_, HMK.out, HBX.out, HB.out, rfl⟩
          · clear q1 q2 r1 r2
            have h1 := HLX.out
            have h2 := HXX.out
            rw [← HROW.out, show W + 1 - CW - x = 0 by omega, show Q.length + 1 - CH - (y + 1) = Q.length - CH - y by omega, rowP]
            rfl
          · clear q1 q2 r1 r2
            have := HLT.out
            rw [Hm1.out]
            show ((Q.length : Int) + 1 - ((y : Int) + 1)).toNat < ((Q.length : Int) + 1 - (y : Int)).toNat
            omega
    · have t1 : decide ((y : Int) + (CH : Int) ≤ (Q.length : Int)) = false := decide_eq_false (by omega)
      have z0 := ckA hbx 0 _ rfl
      have z1 := ckA hbx 1 _ rfl
      have z2 := ckA hbx 2 _ rfl
      have z3 := ckA hbx 3 _ rfl
      have f0 := free_of_one hbx 0
      have f1 := free_of_one hbx 1
      have f2 := free_of_one hbx 2
      have f3 := free_of_one hbx 3
      have hp0 : placeP L W Q.length CW CH = none := by
        rw [← hcol, show Q.length + 1 - CH - y = 0 by omega]
        rfl
      have HP0 := Lib.hid hp0
      clear hbx hm hcol hbw hlt hy hp0
      obtain ⟨s1, s2⟩ := HS.out
      gi_wp2
      refine leave_marks (HMK.out.step (step_set4 _ _ _ _ _ _) (fun k e => .inl (by omega))) (fun w' hs => ?_)
      have hb4 := hs.same (cell_set4 (v0 := .int .i64 0) (v1 := .int .i64 0) (v2 := .int .i64 0) (v3 := .int .i64 0) HBX.out) (fun e => by omega)
      refine ⟨_, results_ct rfl _ _ w.heap.size 43 _ (0, 0) _ rfl hb4 Try.underlying43 rfl (inf4 rfl), .inr ⟨HP0.out, rfl⟩, HB.out.trans ((((step_set4 _ _ _ _ _ _).mono (T' := fun k => w.heap.size ≤ k) (fun k e => by omega)).trans hs (fun k e => .inl (by omega))).below (fun k e => e) HB.out.size)⟩
end Go.Proofs.Ytoleencecfjcjaa.At

/- The words' append of one element, behind a fence. No program in it. -/
set_option linter.unusedVariables false
namespace Go.Proofs.Ytoleencecfjcjaa.Rng
open Go.RowKit Go.Proofs.YtoleencecfjcjaaW.PrintWords
section
variable {F : Fence} {n : Nat} {P : Program} {ops : Array Oper} {rest : List Oper} {o : Oper} {a : Act} {Q : Exit → Act → World → Prop} {α : Type}
theorem R_appendIn (d : Kd α) {w0 W : World} (base : Nat) (hgd : o.guard = none) (s x : Operand) (t e : TypeId) (z : Value) (bytes : Nat)
    (ho : o.op = .call { callee := .builtin .append, args := #[s, x], argTypes := #[t, t] })
    (ht : P.underlying t = some (.slice e)) (hinfo : (P.info? e).map (fun i => (i.zero, i.size, i.bytes)) = some (some z, d.sz, bytes)) (hz : z.cells.size = d.sz) (hs0 : 0 < d.sz) (hb0 : 0 < bytes)
    (v : Value) (xs : List α) (p : α) (cs : List Value) (ok okp : Nat → Prop) (hs : a.eval s = v) (hx : a.eval x = .slice (some ⟨W.heap.size, 0, none⟩) 1 1) (hp : d.M W base okp p cs) (hokp : ∀ k, okp k → ok k ∧ some k ≠ v.ownBlock) (hfresh : ∀ k, W.heap.size ≤ k → ok k)
    (HO : d.R e W base ok v xs) (HB : Below base w0 W) (hbase : base ≤ W.heap.size) (hl : (xs.length + 1) * bytes ≤ 140737488355328)
    (h : ∀ v1 w1, d.R e w1 base ok v1 (xs ++ [p]) → Below base w0 w1 → W.grownBy w1 v.ownBlock → (v1.ownBlock = v.ownBlock ∨ ∃ b, v1.ownBlock = some b ∧ W.heap.size ≤ b) → wpListIn F n P ops Q rest (a.put o.dst v1) w1) :
    wpListIn F n P ops Q (o :: rest) a (W.alloc (.cells cs.toArray e)) := by
  obtain ⟨h0, inner, hown, hr⟩ := HO
  obtain ⟨i0, hi, hzz⟩ := Option.map_eq_some_iff.1 hinfo
  simp only [Prod.mk.injEq] at hzz
  obtain ⟨hz0, hz1, hz2⟩ := hzz
  have hcl := d.K_len (d.K_of_M hp)
  have hlen : xs.length + 1 ≤ 140737488355328 := Nat.le_trans (Nat.le_mul_of_pos_right _ hb0) hl
  refine wpListIn_plain hgd fun K hK' => ?_
  obtain ⟨v1, w1, hrun, r1, r2, _, hat⟩ := run_append_own_at (P := P) (w := W.alloc (.cells cs.toArray e)) base t o.type e i0 z d.sz bytes ht hi hz0 hz1 hz2 hz hs0 v xs.length inner (hown.alloc _) ⟨W.heap.size, 0, none⟩ 1 1 cs (by rw [hcl]; simp)
    (by simpa using World.news_of_block (cs := cs.toArray) (t := e) (fr := (0, 0)) (heap_alloc_new W (.cells cs.toArray e))) (d.K_one (d.K_of_M hp)) (by simp only [maxLen]; omega) hl (by simp; omega)
  have hg1 : W.grownBy w1 v.ownBlock := World.grownBy.trans (World.grownBy_alloc W _ _) r2
  have hat1 : v1.ownBlock = v.ownBlock ∨ ∃ b, v1.ownBlock = some b ∧ W.heap.size ≤ b := by
    rcases hat with hat | hat
    · exact .inl hat
    · exact .inr ⟨_, hat, by simp⟩
  have hb1 : Below base w0 w1 := (HB.alloc hbase _).grown r2 (by simp; omega) (own_base hown)
  unfold Oper.wpIn
  refine ⟨?_, ?_⟩
  · simp [Oper.about, ho, resolve, Target.leads, Sem.run_pure]
  · rw [Oper.semAt_plain F _ _ (by rw [ho]; intro c hc'; cases hc')]
    simp [execOp, ho, resolve, invoke, builtin, hs, hx, hrun, Result.andThen]
    exact hK' _ _ (h v1 w1 (Kd.R_appended h0 hr hp hokp hfresh r1 hg1 hat1) hb1 hg1 hat1)
end
end Go.Proofs.Ytoleencecfjcjaa.Rng

/- bitmap. -/
set_option linter.unusedVariables false
set_option linter.unusedSimpArgs false
namespace Go.Proofs.Ytoleencecfjcjaa.At
open Go.RowKit Go.Proofs.YtoleencecfjcjaaW.PrintWords Go.Proofs.YtoleencecfjcjaaW.PrintLast Go.Proofs.Ytoleencecfjcjaa.Rng
attribute [local go_sem] Oper.semAt_some
def bitsOf (f : Nat → Bool) : Nat → Nat
  | 0 => 0
  | n + 1 => if f n then bitsOf f n + 2 ^ n else bitsOf f n
theorem bitsOf_lt (f : Nat → Bool) : ∀ n, bitsOf f n < 2 ^ n
  | 0 => by simp [bitsOf]
  | n + 1 => by
    have := bitsOf_lt f n
    rw [bitsOf, Nat.pow_succ]
    split <;> omega
theorem bitsOf_or (f : Nat → Bool) (n : Nat) : bitsOf f n ||| 2 ^ n = bitsOf f n + 2 ^ n := by
  have := Nat.two_pow_add_eq_or_of_lt (bitsOf_lt f n) 1
  rw [Nat.mul_one] at this
  rw [Nat.add_comm, this, Nat.or_comm]
theorem cell_alloc {w : World} {p : Addr} (h : p.block < w.heap.size) {o : Obj} : (w.alloc o).cell? p = w.cell? p := cell_eq (Below.heap_alloc w o p.block h)
theorem Ru_move {w w1 : World} {base : Nat} {v : Value} {xs : List Int} (h : Kd.R (Kd.int .u64) 92 w base (fun _ => True) v xs) (hm : ∀ k, v.ownBlock = some k → w1.heap[k]? = w.heap[k]?) : Kd.R (Kd.int .u64) 92 w1 base (fun _ => True) v xs :=
  Kd.R_of_own (own_move (Kd.own_of_R h) hm) (fun _ _ => trivial)
theorem Ru_slice {w : World} {base : Nat} {v : Value} {xs : List Int} (h : Kd.R (Kd.int .u64) 92 w base (fun _ => True) v xs) : ∃ n A c, v = .slice A n c := by
  obtain ⟨A, c, hv, _⟩ := own_reads_of_le (d := (0 : Int)) (Kd.own_of_R h)
  exact ⟨_, A, c, hv⟩
theorem shl_i (i : Nat) (h : i < 64) : IntKind.u64.wrap (2 ^ min i 64) = ((2 ^ i : Nat) : Int) := by
  have h1 : 2 ^ i < 2 ^ 64 := Nat.pow_lt_pow_right (by omega) h
  rw [Nat.min_eq_left (by omega), show ((2 : Int) ^ i) = ((2 ^ i : Nat) : Int) by simp]
  generalize 2 ^ i = b at *
  rw [IntKind.wrap_u64]
  omega
theorem or_i (f : Nat → Bool) (i : Nat) (h : i < 64) : bits .or .u64 (bitsOf f i : Int) ((2 ^ i : Nat) : Int) = ((bitsOf f i + 2 ^ i : Nat) : Int) := by
  have ha := bitsOf_lt f i
  have e := bitsOf_or f i
  have h1 : 2 ^ i ≤ 9223372036854775808 := Nat.pow_le_pow_right (n := 2) (by omega) (show i ≤ 63 by omega)
  generalize bitsOf f i = a at *
  generalize 2 ^ i = b at *
  have e2 : IntKind.u64.wrap ((a + b : Nat) : Int) = ((a + b : Nat) : Int) := by rw [IntKind.wrap_u64]; omega
  simp [Go.bits]
  rw [show a % 2 ^ IntKind.u64.bits = a from Nat.mod_eq_of_lt (by have : (2 : Nat) ^ IntKind.u64.bits = 18446744073709551616 := rfl; omega), show b % 2 ^ IntKind.u64.bits = b from Nat.mod_eq_of_lt (by have : (2 : Nat) ^ IntKind.u64.bits = 18446744073709551616 := rfl; omega), e]
  exact e2
theorem or_step (f : Nat → Bool) (i n : Nat) (hn : n ≤ 64) (h : i < n) (hx : f i = true) : bits .or .u64 (bitsOf f i : Int) (IntKind.u64.wrap (2 ^ min i 64)) = (bitsOf f (i + 1) : Int) := by
  rw [shl_i i (by omega), or_i _ i (by omega), bitsOf, if_pos hx]
theorem results_c {P : Program} {fn : Func} {p : Tmp} {ty : TypeId} (h : fn.results = #[.cell p ty]) (tmps : Array Value) (w : World) (g : Nat) (t : TypeId) (cs : Array Value) (fr : Nat × Nat) (d : TypeDesc)
    (hp : tmps.getD p undef = .pointer (some ⟨g, 0, none⟩)) (hg : w.heap[g]? = some (.cells cs t fr))
    (hu : P.underlying ty = some d) (hd : (match d with | .struct _ | .array _ _ => true | _ => false) = true) (hi : (P.info? ty).map (·.size) = some cs.size) :
    (results fn tmps).run P w = .ok (.agg cs) w := by
  have hp' : tmps[p]?.getD undef = .pointer (some ⟨g, 0, none⟩) := by simpa using hp
  simp [results, h, hp', asAddr, run_loadVar_row w g t ty cs fr d hg hu hd hi]
theorem inf5 {cs : Array Value} (h : cs.size = 5) : (Try.prog.info? 38).map (·.size) = some cs.size := by rw [h]; kernel_rfl
theorem cell_set5 {w : World} {b : Nat} {a0 a1 a2 a3 a4 v0 v1 v2 v3 v4 : Value} {T : TypeId} (h : w.heap[b]? = some (.cells #[a0, a1, a2, a3, a4] T (0, 0))) :
    (((((w.setCell ⟨b, 0, none⟩ v0).setCell ⟨b, 1, none⟩ v1).setCell ⟨b, 2, none⟩ v2).setCell ⟨b, 3, none⟩ v3).setCell ⟨b, 4, none⟩ v4).heap[b]? = some (.cells #[v0, v1, v2, v3, v4] T (0, 0)) := cell_setB (cell_setB (cell_setB (cell_setB (cell_setB h 0 v0) 1 v1) 2 v2) 3 v3) 4 v4
theorem step_set5 (w : World) (b : Nat) (v0 v1 v2 v3 v4 : Value) : Step (fun k => k = b) w (((((w.setCell ⟨b, 0, none⟩ v0).setCell ⟨b, 1, none⟩ v1).setCell ⟨b, 2, none⟩ v2).setCell ⟨b, 3, none⟩ v3).setCell ⟨b, 4, none⟩ v4) :=
  (step_set4 w b v0 v1 v2 v3).setCell (p := ⟨b, 4, none⟩) (.inl rfl) v4
theorem meas_i (i CW : Nat) (h : i < CW) : ((CW : Int) - intOf (.int .i64 ((i : Int) + 1))).toNat < ((CW : Int) - intOf (.int .i64 (i : Int))).toNat := by
  simp only [intOf]
  omega
theorem or_skip (f : Nat → Bool) (i : Nat) (hx : f i = false) : (bitsOf f i : Int) = (bitsOf f (i + 1) : Int) := by
  rw [bitsOf, hx]
  rfl
theorem Ru_lt {w : World} {base : Nat} {v : Value} {xs : List Int} (h : Kd.R (Kd.int .u64) 92 w base (fun _ => True) v xs) {k : Nat} (hk : v.ownBlock = some k) : base ≤ k ∧ k < w.heap.size := by
  have h' := Kd.R_bound h
  exact ⟨(h'.1 k hk).2.1, (h'.1 k hk).2.2.1⟩
set_option maxRecDepth 100000 in
set_option maxHeartbeats 4000000 in
theorem bitmap_c {w : World} {g ge gp W cap X Y CW CH : Nat} {Q : List Nat} {px : Nat → Nat → Bool} {c0 c1 c3 c4 c5 : Value} {bl bt us : Int} (rs : List Int) (hW : W ≤ 128) (hC : CW ≤ 64) (hQ : Q.length ≤ 128) (h1 : X + CW ≤ W) (h2 : Y + CH ≤ Q.length) (h3 : CH = 0 ∨ 0 < CW)
    (hg : w.heap[g]? = some (.cells #[c0, c1, .slice (some ⟨gp, 0, none⟩) Q.length cap, c3, c4, c5] 64 (0, 0)))
    (he : w.heap[ge]? = some (.cells #[.int .i64 bl, .int .i64 bt, .int .i64 (X : Int), .int .i64 (Y : Int), .int .i64 (CW : Int), .int .i64 (CH : Int), .int .i64 us] 94 (0, 0)))
    (ho : Outer gp W Q w) (hgp : gp < w.heap.size) (hr : Rows Q W px w) (hrl : rs.length = CH) (hrs : ∀ k r, rs[k]? = some r → r = (bitsOf (fun i => px (Y + k) (X + i)) CW : Int)) :
    Calls Try.prog 33 #[.pointer (some ⟨g, 0, none⟩), .pointer (some ⟨ge, 0, none⟩)] w fun e w' => (∃ v, e = .returned (.agg #[.int .i64 bl, .int .i64 bt, .int .i64 (CW : Int), .int .i64 (CH : Int), v]) ∧ Kd.R (Kd.int .u64) 92 w' w.heap.size (fun _ => True) v rs) ∧ Below w.heap.size w w' := by
  refine (callsIn_wide (n := 3)).1 ?_
  refine callsIn_of_wp_marks Try.func33 rfl trivial ?_ rfl
  simp only [Try.ntmps33, List.size_toArray, List.length_cons, List.length_nil, Nat.reduceAdd, Nat.reduceSub, Array.replicate_succ, Array.replicate_zero, List.push_toArray, List.append_toArray, List.nil_append, List.cons_append]
  gi_wp2
  obtain ⟨w0, hw0⟩ : ∃ V, V = w.alloc (.cells #[.int .i64 0, .int .i64 0, .int .i64 0, .int .i64 0, .slice none 0 0] 38) := ⟨_, rfl⟩
  have he0 := blk_alloc he (.cells #[.int .i64 0, .int .i64 0, .int .i64 0, .int .i64 0, .slice none 0 0] 38)
  rw [← hw0] at he0
  rw [← hw0]
  have e0 : w0.cell? ⟨ge, 0, none⟩ = some (.int .i64 bl) := ckA he0 0 _ rfl
  have e1 : w0.cell? ⟨ge, 1, none⟩ = some (.int .i64 bt) := ckA he0 1 _ rfl
  have e4 : w0.cell? ⟨ge, 4, none⟩ = some (.int .i64 (CW : Int)) := ckA he0 4 _ rfl
  have e5 : w0.cell? ⟨ge, 5, none⟩ = some (.int .i64 (CH : Int)) := ckA he0 5 _ rfl
  have d0 : w0.drew.cell? ⟨ge, 0, none⟩ = some (.int .i64 bl) := e0
  have d1 : w0.drew.cell? ⟨ge, 1, none⟩ = some (.int .i64 bt) := e1
  have d4 : w0.drew.cell? ⟨ge, 4, none⟩ = some (.int .i64 (CW : Int)) := e4
  have d5 : w0.drew.cell? ⟨ge, 5, none⟩ = some (.int .i64 (CH : Int)) := e5
  have hge : ge < w0.heap.size := lt_of_blk he0
  have hge2 : ge < w0.drew.heap.size := hge
  have hB0 : Below w.heap.size w w0 := by rw [hw0]; exact below_alloc (Below.refl _ _) _
  have hz0 := blk_new w (.cells #[.int .i64 0, .int .i64 0, .int .i64 0, .int .i64 0, .slice none 0 0] 38)
  rw [← hw0] at hz0
  have hs0 : w0.heap.size = w.heap.size + 1 := by rw [hw0]; simp
  have HB0 := Lib.hid hB0
  have HZ0 := Lib.hid hz0
  have HS0 := Lib.hid hs0
  have HE0 := Lib.hid he0
  clear hw0 hB0 hz0 hs0 he0
  refine sN (m := 21) (S := fun w' => w'.cell? ⟨ge, 0, none⟩ = some (.int .i64 bl) ∧ w'.cell? ⟨ge, 1, none⟩ = some (.int .i64 bt) ∧ w'.cell? ⟨ge, 4, none⟩ = some (.int .i64 (CW : Int)) ∧ w'.cell? ⟨ge, 5, none⟩ = some (.int .i64 (CH : Int)) ∧ ge < w'.heap.size) (ds := [20]) #[false, false, false, false, false, false, false, false, false, false, false, false, false, false, false, false, false, false, false, false, false] (by kernel_rfl) rfl rfl ⟨d0, d1, d4, d5, hge2⟩ (fun hHeld => ?_)
  refine pR (i := 0) (N := some 11) (v := ?_) (a' := ?_) #[true, false, false, false, false, false, false, false, false, false, false, false, false, false, false, false, false, false, false, false, false] rfl rfl (by kernel_rfl) (Or.inl ⟨by rfl, ?_⟩) ?_ ?_
  rotate_left
  · intro w'
    go_simp
    with_reducible rfl
  rotate_left
  · simp only [Act.put, List.setIfInBounds_toArray, List.set_cons_zero, List.set_cons_succ, i64_w, i32_w]
    rfl
  refine pR (i := 1) (N := some 12) (v := ?_) (a' := ?_) #[true, true, false, false, false, false, false, false, false, false, false, false, false, false, false, false, false, false, false, false, false] rfl rfl (by kernel_rfl) (Or.inl ⟨by rfl, ?_⟩) ?_ ?_
  rotate_left
  · intro w'
    go_simp
    with_reducible rfl
  rotate_left
  · simp only [Act.put, List.setIfInBounds_toArray, List.set_cons_zero, List.set_cons_succ, i64_w, i32_w]
    rfl
  refine pR (i := 2) (N := some 13) (v := ?_) (a' := ?_) #[true, true, true, false, false, false, false, false, false, false, false, false, false, false, false, false, false, false, false, false, false] rfl rfl (by kernel_rfl) (Or.inl ⟨by rfl, ?_⟩) ?_ ?_
  rotate_left
  · intro w'
    go_simp
    with_reducible rfl
  rotate_left
  · simp only [Act.put, List.setIfInBounds_toArray, List.set_cons_zero, List.set_cons_succ, i64_w, i32_w]
    rfl
  refine tR (i := 3) (N := some 14) (v := ?_) (a' := ?_) #[true, true, true, true, false, false, false, false, false, false, false, false, false, false, false, false, false, false, false, false, false] rfl rfl (by kernel_rfl) (Or.inl ⟨by rfl, ?_⟩) hHeld ?_ ?_
  rotate_left
  · rintro w' ⟨s0, s1, s2, s3, s4⟩
    go_simp
    with_reducible rfl
  rotate_left
  · simp only [Act.put, List.setIfInBounds_toArray, List.set_cons_zero, List.set_cons_succ, i64_w, i32_w]
    rfl
  refine pR (i := 4) (N := some 15) (v := ?_) (a' := ?_) #[true, true, true, true, true, false, false, false, false, false, false, false, false, false, false, false, false, false, false, false, false] rfl rfl (by kernel_rfl) (Or.inl ⟨by rfl, ?_⟩) ?_ ?_
  rotate_left
  · intro w'
    go_simp
    with_reducible rfl
  rotate_left
  · simp only [Act.put, List.setIfInBounds_toArray, List.set_cons_zero, List.set_cons_succ, i64_w, i32_w]
    rfl
  refine pR (i := 5) (N := some 16) (v := ?_) (a' := ?_) #[true, true, true, true, true, true, false, false, false, false, false, false, false, false, false, false, false, false, false, false, false] rfl rfl (by kernel_rfl) (Or.inl ⟨by rfl, ?_⟩) ?_ ?_
  rotate_left
  · intro w'
    go_simp
    with_reducible rfl
  rotate_left
  · simp only [Act.put, List.setIfInBounds_toArray, List.set_cons_zero, List.set_cons_succ, i64_w, i32_w]
    rfl
  refine pR (i := 6) (N := some 17) (v := ?_) (a' := ?_) #[true, true, true, true, true, true, true, false, false, false, false, false, false, false, false, false, false, false, false, false, false] rfl rfl (by kernel_rfl) (Or.inl ⟨by rfl, ?_⟩) ?_ ?_
  rotate_left
  · intro w'
    go_simp
    with_reducible rfl
  rotate_left
  · simp only [Act.put, List.setIfInBounds_toArray, List.set_cons_zero, List.set_cons_succ, i64_w, i32_w]
    rfl
  refine tR (i := 7) (N := some 18) (v := ?_) (a' := ?_) #[true, true, true, true, true, true, true, true, false, false, false, false, false, false, false, false, false, false, false, false, false] rfl rfl (by kernel_rfl) (Or.inl ⟨by rfl, ?_⟩) hHeld ?_ ?_
  rotate_left
  · rintro w' ⟨s0, s1, s2, s3, s4⟩
    go_simp
    with_reducible rfl
  rotate_left
  · simp only [Act.put, List.setIfInBounds_toArray, List.set_cons_zero, List.set_cons_succ, i64_w, i32_w]
    rfl
  refine pR (i := 8) (N := some 19) (v := ?_) (a' := ?_) #[true, true, true, true, true, true, true, true, true, false, false, false, false, false, false, false, false, false, false, false, false] rfl rfl (by kernel_rfl) (Or.inl ⟨by rfl, ?_⟩) ?_ ?_
  rotate_left
  · intro w'
    go_simp
    with_reducible rfl
  rotate_left
  · simp only [Act.put, List.setIfInBounds_toArray, List.set_cons_zero, List.set_cons_succ, i64_w, i32_w]
    rfl
  refine pR (i := 9) (N := some 20) (v := ?_) (a' := ?_) #[true, true, true, true, true, true, true, true, true, true, false, false, false, false, false, false, false, false, false, false, false] rfl rfl (by kernel_rfl) (Or.inl ⟨by rfl, ?_⟩) ?_ ?_
  rotate_left
  · intro w'
    go_simp
    with_reducible rfl
  rotate_left
  · simp only [Act.put, List.setIfInBounds_toArray, List.set_cons_zero, List.set_cons_succ, i64_w, i32_w]
    rfl
  refine pR (i := 10) (N := some 21) (v := ?_) (a' := ?_) #[true, true, true, true, true, true, true, true, true, true, true, false, false, false, false, false, false, false, false, false, false] rfl rfl (by kernel_rfl) (Or.inl ⟨by rfl, ?_⟩) ?_ ?_
  rotate_left
  · intro w'
    go_simp
    with_reducible rfl
  rotate_left
  · simp only [Act.put, List.setIfInBounds_toArray, List.set_cons_zero, List.set_cons_succ, i64_w, i32_w]
    rfl
  refine pR (i := 11) (N := some 22) (v := ?_) (a' := ?_) #[true, true, true, true, true, true, true, true, true, true, true, true, false, false, false, false, false, false, false, false, false] rfl rfl (by kernel_rfl) (Or.inl ⟨by rfl, ?_⟩) ?_ ?_
  rotate_left
  · intro w'
    go_simp
    with_reducible rfl
  rotate_left
  · simp only [Act.put, List.setIfInBounds_toArray, List.set_cons_zero, List.set_cons_succ, i64_w, i32_w]
    rfl
  refine tR (i := 12) (N := some 23) (v := ?_) (a' := ?_) #[true, true, true, true, true, true, true, true, true, true, true, true, true, false, false, false, false, false, false, false, false] rfl rfl (by kernel_rfl) (Or.inl ⟨by rfl, ?_⟩) hHeld ?_ ?_
  rotate_left
  · rintro w' ⟨s0, s1, s2, s3, s4⟩
    go_simp
    with_reducible rfl
  rotate_left
  · simp only [Act.put, List.setIfInBounds_toArray, List.set_cons_zero, List.set_cons_succ, i64_w, i32_w]
    rfl
  refine pR (i := 13) (N := some 24) (v := ?_) (a' := ?_) #[true, true, true, true, true, true, true, true, true, true, true, true, true, true, false, false, false, false, false, false, false] rfl rfl (by kernel_rfl) (Or.inl ⟨by rfl, ?_⟩) ?_ ?_
  rotate_left
  · intro w'
    go_simp
    with_reducible rfl
  rotate_left
  · simp only [Act.put, List.setIfInBounds_toArray, List.set_cons_zero, List.set_cons_succ, i64_w, i32_w]
    rfl
  refine pR (i := 14) (N := some 25) (v := ?_) (a' := ?_) #[true, true, true, true, true, true, true, true, true, true, true, true, true, true, true, false, false, false, false, false, false] rfl rfl (by kernel_rfl) (Or.inl ⟨by rfl, ?_⟩) ?_ ?_
  rotate_left
  · intro w'
    go_simp
    with_reducible rfl
  rotate_left
  · simp only [Act.put, List.setIfInBounds_toArray, List.set_cons_zero, List.set_cons_succ, i64_w, i32_w]
    rfl
  refine pR (i := 15) (N := some 26) (v := ?_) (a' := ?_) #[true, true, true, true, true, true, true, true, true, true, true, true, true, true, true, true, false, false, false, false, false] rfl rfl (by kernel_rfl) (Or.inl ⟨by rfl, ?_⟩) ?_ ?_
  rotate_left
  · intro w'
    go_simp
    with_reducible rfl
  rotate_left
  · simp only [Act.put, List.setIfInBounds_toArray, List.set_cons_zero, List.set_cons_succ, i64_w, i32_w]
    rfl
  refine pR (i := 16) (N := some 27) (v := ?_) (a' := ?_) #[true, true, true, true, true, true, true, true, true, true, true, true, true, true, true, true, true, false, false, false, false] rfl rfl (by kernel_rfl) (Or.inl ⟨by rfl, ?_⟩) ?_ ?_
  rotate_left
  · intro w'
    go_simp
    with_reducible rfl
  rotate_left
  · simp only [Act.put, List.setIfInBounds_toArray, List.set_cons_zero, List.set_cons_succ, i64_w, i32_w]
    rfl
  refine tR (i := 17) (N := some 28) (v := ?_) (a' := ?_) #[true, true, true, true, true, true, true, true, true, true, true, true, true, true, true, true, true, true, false, false, false] rfl rfl (by kernel_rfl) (Or.inl ⟨by rfl, ?_⟩) hHeld ?_ ?_
  rotate_left
  · rintro w' ⟨s0, s1, s2, s3, s4⟩
    go_simp
    with_reducible rfl
  rotate_left
  · simp only [Act.put, List.setIfInBounds_toArray, List.set_cons_zero, List.set_cons_succ, i64_w, i32_w]
    rfl
  refine pR (i := 18) (N := some 29) (v := ?_) (a' := ?_) #[true, true, true, true, true, true, true, true, true, true, true, true, true, true, true, true, true, true, true, false, false] rfl rfl (by kernel_rfl) (Or.inl ⟨by rfl, ?_⟩) ?_ ?_
  rotate_left
  · intro w'
    go_simp
    with_reducible rfl
  rotate_left
  · simp only [Act.put, List.setIfInBounds_toArray, List.set_cons_zero, List.set_cons_succ, i64_w, i32_w]
    rfl
  refine kR (i := 19) (N := some 5) #[true, true, true, true, true, true, true, true, true, true, true, true, true, true, true, true, true, true, true, true, false] rfl rfl (by kernel_rfl) (by rfl) (fun K hK => ?_)
  refine ⟨(fun f h => by cases h), ?_⟩
  go_simp
  refine hK _ _ (fun ⟨s0, s1, s2, s3, s4⟩ => ⟨(cell_alloc (w := w0) s4).trans s0, (cell_alloc (w := w0) s4).trans s1, (cell_alloc (w := w0) s4).trans s2, (cell_alloc (w := w0) s4).trans s3, Nat.lt_of_lt_of_le s4 (by simp)⟩) ?_
  clear hK K
  refine lR (i := 20) (N := none) #[true, true, true, true, true, true, true, true, true, true, true, true, true, true, true, true, true, true, true, true, true] rfl rfl (by kernel_rfl) (by decide) (by rfl) (fun K hK => ?_)
  refine ⟨(fun f h => by cases h), ?_⟩
  go_simp
  refine hK _ _ ?_
  clear hK K
  refine dN (by kernel_rfl) ?_
  gi_wp2
  obtain ⟨B, hB⟩ : ∃ B, B = w0.heap.size := ⟨_, rfl⟩
  obtain ⟨w1, hw1⟩ : ∃ V, V = (w0.alloc (.cells #[.int .i64 bl, .int .i64 bt, .int .i64 (CW : Int), .int .i64 (CH : Int), .slice none 0 0] 38)).drew := ⟨_, rfl⟩
  have hb1 : w1.heap[B]? = some (.cells #[.int .i64 bl, .int .i64 bt, .int .i64 (CW : Int), .int .i64 (CH : Int), .slice none 0 0] 38 (0, 0)) := by rw [hw1, hB]; exact blk_new w0 _
  have hB1 : Below B w0 w1 := by rw [hw1, hB]; exact below_drew (below_alloc (Below.refl _ _) _)
  have hz1 : w1.heap.size = B + 1 := by rw [hw1, hB]; simp
  have hwB : w.heap.size + 1 = B := by rw [hB]; exact HS0.out.symm
  have hBw : Below w.heap.size w w1 := HB0.out.trans (hB1.mono (by omega))
  have hg1 := blk_below hg hBw
  have he1 := blk_below he hBw
  rw [← hw1, ← hB]
  have q2 : w1.drew.cell? ⟨g, 2, none⟩ = some (.slice (some ⟨gp, 0, none⟩) Q.length cap) := ckA hg1 2 _ rfl
  have x0 : w1.drew.cell? ⟨ge, 2, none⟩ = some (.int .i64 (X : Int)) := ckA he1 2 _ rfl
  have x1 : w1.drew.cell? ⟨ge, 3, none⟩ = some (.int .i64 (Y : Int)) := ckA he1 3 _ rfl
  have x2 : w1.drew.cell? ⟨ge, 4, none⟩ = some (.int .i64 (CW : Int)) := ckA he1 4 _ rfl
  have x3 : w1.drew.cell? ⟨ge, 5, none⟩ = some (.int .i64 (CH : Int)) := ckA he1 5 _ rfl
  have hz0B : w1.heap[w.heap.size]? = _ := (hB1.block w.heap.size (by omega)).trans HZ0.out
  have HZB := Lib.hid hz0B
  have HBB := Lib.hid hb1
  have HZ1 := Lib.hid hz1
  have HWB := Lib.hid hwB
  have HBW := Lib.hid hBw
  clear hw1 hb1 hB1 hz1 hwB hBw hg1 he1 hHeld d0 d1 d4 d5 e0 e1 e4 e5 hge hge2 hz0B HZ0 HS0 HB0 HE0 hB
  refine sN (m := 9) (S := fun w' => w'.cell? ⟨g, 2, none⟩ = some (.slice (some ⟨gp, 0, none⟩) Q.length cap) ∧ w'.cell? ⟨ge, 2, none⟩ = some (.int .i64 (X : Int)) ∧ w'.cell? ⟨ge, 3, none⟩ = some (.int .i64 (Y : Int)) ∧ w'.cell? ⟨ge, 4, none⟩ = some (.int .i64 (CW : Int)) ∧ w'.cell? ⟨ge, 5, none⟩ = some (.int .i64 (CH : Int))) (ds := [8]) #[false, false, false, false, false, false, false, false, false] (by kernel_rfl) rfl rfl ⟨q2, x0, x1, x2, x3⟩ (fun hHeld => ?_)
  refine pR (i := 0) (N := some 30) (v := ?_) (a' := ?_) #[true, false, false, false, false, false, false, false, false] rfl rfl (by kernel_rfl) (Or.inl ⟨by rfl, ?_⟩) ?_ ?_
  rotate_left
  · intro w'
    go_simp
    with_reducible rfl
  rotate_left
  · simp only [Act.put, List.setIfInBounds_toArray, List.set_cons_zero, List.set_cons_succ, i64_w, i32_w]
    rfl
  refine pR (i := 1) (N := some 31) (v := ?_) (a' := ?_) #[true, true, false, false, false, false, false, false, false] rfl rfl (by kernel_rfl) (Or.inl ⟨by rfl, ?_⟩) ?_ ?_
  rotate_left
  · intro w'
    go_simp
    with_reducible rfl
  rotate_left
  · simp only [Act.put, List.setIfInBounds_toArray, List.set_cons_zero, List.set_cons_succ, i64_w, i32_w]
    rfl
  refine pR (i := 2) (N := some 32) (v := ?_) (a' := ?_) #[true, true, true, false, false, false, false, false, false] rfl rfl (by kernel_rfl) (Or.inl ⟨by rfl, ?_⟩) ?_ ?_
  rotate_left
  · intro w'
    go_simp
    with_reducible rfl
  rotate_left
  · simp only [Act.put, List.setIfInBounds_toArray, List.set_cons_zero, List.set_cons_succ, i64_w, i32_w]
    rfl
  refine tR (i := 3) (N := some 33) (v := ?_) (a' := ?_) #[true, true, true, true, false, false, false, false, false] rfl rfl (by kernel_rfl) (Or.inl ⟨by rfl, ?_⟩) hHeld ?_ ?_
  rotate_left
  · rintro w' ⟨s0, s1, s2, s3, s4⟩
    go_simp
    with_reducible rfl
  rotate_left
  · simp only [Act.put, List.setIfInBounds_toArray, List.set_cons_zero, List.set_cons_succ, i64_w, i32_w]
    rfl
  refine pR (i := 4) (N := some 34) (v := ?_) (a' := ?_) #[true, true, true, true, true, false, false, false, false] rfl rfl (by kernel_rfl) (Or.inl ⟨by rfl, ?_⟩) ?_ ?_
  rotate_left
  · intro w'
    go_simp
    with_reducible rfl
  rotate_left
  · simp only [Act.put, List.setIfInBounds_toArray, List.set_cons_zero, List.set_cons_succ, i64_w, i32_w]
    rfl
  refine pR (i := 5) (N := some 35) (v := ?_) (a' := ?_) #[true, true, true, true, true, true, false, false, false] rfl rfl (by kernel_rfl) (Or.inl ⟨by rfl, ?_⟩) ?_ ?_
  rotate_left
  · intro w'
    go_simp
    with_reducible rfl
  rotate_left
  · simp only [Act.put, List.setIfInBounds_toArray, List.set_cons_zero, List.set_cons_succ, i64_w, i32_w]
    rfl
  refine pR (i := 6) (N := some 36) (v := ?_) (a' := ?_) #[true, true, true, true, true, true, true, false, false] rfl rfl (by kernel_rfl) (Or.inl ⟨by rfl, ?_⟩) ?_ ?_
  rotate_left
  · intro w'
    go_simp
    with_reducible rfl
  rotate_left
  · simp only [Act.put, List.setIfInBounds_toArray, List.set_cons_zero, List.set_cons_succ, i64_w, i32_w]
    rfl
  refine tR (i := 7) (N := some 37) (v := ?_) (a' := ?_) #[true, true, true, true, true, true, true, true, false] rfl rfl (by kernel_rfl) (Or.inl ⟨by rfl, ?_⟩) hHeld ?_ ?_
  rotate_left
  · rintro w' ⟨s0, s1, s2, s3, s4⟩
    go_simp
    with_reducible rfl
  rotate_left
  · simp only [Act.put, List.setIfInBounds_toArray, List.set_cons_zero, List.set_cons_succ, i64_w, i32_w]
    rfl
  refine lR (i := 8) (N := some 38) #[true, true, true, true, true, true, true, true, true] rfl rfl (by kernel_rfl) (by decide) (by rfl) (fun K hK => ?_)
  refine ⟨fun f _ => trivial, ?_⟩
  go_simp
  refine (callsIn_wide.2 (cells_any (some ⟨gp, 0, none⟩) Q.length cap (X : Int) (Y : Int) (CW : Int) (CH : Int) _)).mono ?_
  rintro e0 W0 ⟨rfl, hW0⟩
  have HW0 := Lib.hid hW0
  clear hW0
  refine hK _ _ ?_
  clear hK K
  refine dN (by kernel_rfl) ?_
  gi_wp2
  obtain ⟨M, hM⟩ : ∃ M, M = w1.heap.size := ⟨_, rfl⟩
  have hMd : w1.drew.heap.size = M := hM.symm
  have hW0 := HW0.out
  have hbr : W0.heap[M]? = some (.cells #[.slice (some ⟨gp, 0, none⟩) Q.length cap] 61 (0, 0)) := by rw [hW0, ← hMd]; exact blk_alloc (blk_new _ _) _
  have hbc : W0.heap[M + 1]? = some (.cells #[.int .i64 (X : Int), .int .i64 (Y : Int), .int .i64 (CW : Int), .int .i64 (CH : Int)] 43 (0, 0)) := by
    have := blk_new (w1.drew.alloc (.cells #[.slice (some ⟨gp, 0, none⟩) Q.length cap] 61)) (.cells #[.int .i64 (X : Int), .int .i64 (Y : Int), .int .i64 (CW : Int), .int .i64 (CH : Int)] 43)
    rw [hW0, ← hMd]
    simpa using this
  have hk0 : Below M w1 W0 := by rw [hW0, hM]; exact below_alloc (below_alloc (below_drew (Below.refl _ _)) _) _
  have hsz0 : M + 2 = W0.heap.size := by rw [hW0, ← hMd]; simp
  have hQlt : ∀ p, p ∈ Q → p < w.heap.size := fun p hp => by
    obtain ⟨k, hk⟩ := List.getElem?_of_mem hp
    exact lt_of_blk (hr k p hk)
  have ho1 : Outer gp W Q w1 := fun k p hp => (cell_eq (p := ⟨gp, k, none⟩) (HBW.out.block gp hgp)).trans (ho k p hp)
  have hr1 : Rows Q W px w1 := hr.same (fun p hp => HBW.out.block p (hQlt p hp))
  rw [hMd]
  have hMB : M = B + 1 := by rw [hM]; exact HZ1.out
  have HMB := Lib.hid hMB
  have HZ2 := Lib.hid hsz0
  clear hHeld q2 x0 x1 x2 x3 hW0 HW0 hMd hM
  refine wpIn_rangeR (encs := Rw.encs X CW W) (X := Rw.X Q Y CH) (S := fun xs => xs.length = CH) (Sp := fun _ => True) (base := B) (T0 := fun k => k = M + 1 ∨ k = M) (Rd := Outer gp W Q) rfl (fun h => absurd h (by simp [Fence.wide])) (gf := 58) (lb := #[.pointer (some ⟨M + 1, 0, none⟩), .pointer (some ⟨M, 0, none⟩)]) rfl trivial (enters_of Try.func58 (by kernel_rfl) rfl)
    ?hseq (fun _ => rfl) ?hX (fun pre O W' => ∃ v, O = (fun k => k = B ∨ v.ownBlock = some k) ∧ Below B w1 W' ∧ W'.heap[B]? = some (.cells #[.int .i64 bl, .int .i64 bt, .int .i64 (CW : Int), .int .i64 (CH : Int), v] 38 (0, 0)) ∧ Kd.R (Kd.int .u64) 92 W' (B + 1) (fun _ => True) v (rs.take pre.length)) (fun _ _ _ _ => False) ?hRd ?hI ?hIx (by omega) ?hT0 (fun k => k = B ∨ (Value.slice none 0 0).ownBlock = some k) ?hO ?h0
    (fun r => { tmps := #[.pointer (some ⟨g, 0, none⟩), .pointer (some ⟨ge, 0, none⟩), undef, undef, .pointer (some ⟨w.heap.size, 0, none⟩), .pointer (some ⟨B, 0, none⟩), undef, .slice (some ⟨r.p, X, none⟩) CW (W - X), undef, undef, undef, .pointer (some ⟨ge, 0, none⟩), .pointer (some ⟨ge, 0, none⟩), .pointer (some ⟨ge, 0, none⟩), .int .i64 bl, .pointer (some ⟨ge, 0, none⟩), .pointer (some ⟨ge, 0, none⟩), .pointer (some ⟨ge, 1, none⟩), .int .i64 bt, .pointer (some ⟨ge, 0, none⟩), .pointer (some ⟨ge, 0, none⟩), .pointer (some ⟨ge, 2, none⟩), .pointer (some ⟨ge, 4, none⟩), .int .i64 (CW : Int), .pointer (some ⟨ge, 0, none⟩), .pointer (some ⟨ge, 0, none⟩), .pointer (some ⟨ge, 2, none⟩), .pointer (some ⟨ge, 5, none⟩), .int .i64 (CH : Int), .agg #[.int .i64 bl, .int .i64 bt, .int .i64 (CW : Int), .int .i64 (CH : Int), .slice none 0 0], .pointer (some ⟨g, 0, none⟩), .pointer (some ⟨g, 0, none⟩), .pointer (some ⟨g, 2, none⟩), .slice (some ⟨gp, 0, none⟩) Q.length cap, .pointer (some ⟨ge, 0, none⟩), .pointer (some ⟨ge, 0, none⟩), .pointer (some ⟨ge, 2, none⟩), .agg #[.int .i64 (X : Int), .int .i64 (Y : Int), .int .i64 (CW : Int), .int .i64 (CH : Int)], .func (.func 58) #[] #[.pointer (some ⟨M + 1, 0, none⟩), .pointer (some ⟨M, 0, none⟩)], .int .i64 r.k, .slice (some ⟨r.p, X, none⟩) CW (W - X), undef, undef, undef, undef, undef, undef, undef, undef, undef, undef, undef, undef, undef, undef, undef, undef, undef, undef, undef, undef], defers := [] })
    ?assign ?body ?done ?stop
  case hseq => exact cells_iter _ _ M (M + 1) gp W cap X Y CW CH Q W0 hW hQ h1 h2 h3 hbr hbc
  case hX => intro pre r W' l o o' h _ _; exact h
  case hRd =>
    rintro pre O A ⟨v, rfl, hb, _⟩
    exact fun k p hp => (cell_eq (p := ⟨gp, k, none⟩) (hb.block gp (by have := HWB.out; omega))).trans (ho1 k p hp)
  case hI =>
    rintro pre O A A' ⟨v, rfl, hb, hB, hR⟩ hs
    have hB' := hs.same hB (fun h => h.2 (.inl rfl))
    exact ⟨v, rfl, hb.trans (hs.below (fun k h => h.1) (Nat.le_of_lt (lt_of_blk hB))), hB', Ru_move hR (fun k hk => hs.1.2 k (Ru_lt hR hk).2 (fun h => h.2 (.inr hk)))⟩
  case hIx => exact fun _ _ _ _ _ h => h.elim
  case hT0 =>
    rintro k (rfl | rfl)
    · exact ⟨by omega, by omega⟩
    · exact ⟨by omega, by omega⟩
  case hO =>
    rintro k (rfl | h)
    · exact ⟨Nat.le_refl _, by omega, by omega⟩
    · cases h
  case h0 => exact ⟨_, rfl, hk0.mono (by omega), (hk0.block B (by omega)).trans HBB.out, by rw [List.length_nil, List.take_zero]; exact Kd.R_nil _ _ _ _ _⟩
  case assign =>
    clear hsz0 hMB
    intro l r W' K hK
    simp only [Rw.encs]
    gi_wp2
    exact hK
  case body =>
    rintro l pre r O A ⟨v, rfl, hb, hB, hR⟩ ⟨hrk, hrp, hrl'⟩ hO hsz
    have hrq := List.mem_of_getElem? hrp
    have hrow : A.heap[r.p]? = some (.cells (boolsA W (px (Y + pre.length))) 4 (0, 0)) := (hb.block r.p (by have := hQlt _ hrq; have := HWB.out; omega)).trans (hr1 _ _ hrp)
    have HROWA := Lib.hid hrow
    have HBA := Lib.hid hb
    have HBB2 := Lib.hid hB
    have HR := Lib.hid hR
    have HRP := Lib.hid hrp
    have HO := Lib.hid hO
    clear hrow hb hB hR hrp hO hsz0 hMB
    gi_wp2
    gi_loopw [8, 43] (fun v8 v43 wr => ∃ i : Nat, v43 = .int .i64 (i : Int) ∧ v8 = .int .u64 (bitsOf (fun i => px (Y + pre.length) (X + i)) i : Int) ∧ i ≤ CW ∧ wr = A) (fun _ v43 _ => ((CW : Int) - intOf v43).toNat)
    case atStart => exact ⟨0, rfl, rfl, Nat.zero_le _, rfl⟩
    case round =>
      obtain ⟨i, rfl, rfl, hi, hwr⟩ := hrel
      subst hwr
      by_cases hlt : i < CW
      · have t1 : decide ((i : Int) < (CW : Int)) = true := decide_eq_true (by omega)
        have i1 : ((0 : Int) ≤ (i : Int)) = True := eq_true (by omega)
        have i2 : ((i : Int) < (CW : Int)) = True := eq_true (by omega)
        have cx : wr.cell? ⟨r.p, X + i, none⟩ = some _ := ckA HROWA.out (X + i) _ (boolsA_get _ _ _ (by omega))
        have HW := Lib.hid (sum1 i (by omega))
        have HLT := Lib.hid hlt
        obtain ⟨x, hx⟩ : ∃ x, px (Y + pre.length) (X + i) = x := ⟨_, rfl⟩
        rw [hx] at cx
        have HX := Lib.hid hx
        clear hi hlt hx
        obtain ⟨wa, wb⟩ := HW.out
        cases x with
        | true =>
          clear wa wb
          gi_wp2
          rw [HW.out.2]
          refine ⟨⟨i + 1, rfl, ?_, HLT.out, trivial⟩, ?_⟩
          · exact congrArg (Value.int .u64) (or_step (fun i => px (Y + pre.length) (X + i)) i CW hC HLT.out HX.out)
          · exact meas_i i CW HLT.out
        | false =>
          gi_wp2
          refine ⟨⟨i + 1, rfl, ?_, HLT.out, trivial⟩, ?_⟩
          · exact congrArg (Value.int .u64) (or_skip (fun i => px (Y + pre.length) (X + i)) i HX.out)
          · exact meas_i i CW HLT.out
      · have t1 : decide ((i : Int) < (CW : Int)) = false := decide_eq_false (by omega)
        have hie : CW = i := by omega
        subst hie
        have hBl := lt_of_blk HBB2.out
        have hown : some B ≠ v.ownBlock := fun e => by have := (Ru_lt HR.out e.symm).1; omega
        have hlen : ((rs.take pre.length).length + 1) * 8 ≤ 140737488355328 := by rw [List.length_take]; omega
        have HOW := Lib.hid hown
        have HLE := Lib.hid hlen
        have HBL := Lib.hid hBl
        clear hown hlen hBl
        have b4 := ckA HBB2.out 4 _ rfl
        clear hi hlt
        gi_wp2_with (refine R_appendIn (Kd.int .u64) (w0 := wr) (W := wr) (B + 1) rfl (.tmp 55) (.tmp 57) 36 92 (.int .u64 0) 8 rfl Try.underlying36 (by kernel_rfl) rfl (by decide) (by omega) v (rs.take pre.length) (bitsOf (fun i => px (Y + pre.length) (X + i)) CW : Int) [.int .u64 (bitsOf (fun i => px (Y + pre.length) (X + i)) CW : Int)] (fun _ => True) (fun _ => False) rfl rfl rfl (fun _ h => h.elim) (fun _ _ => trivial) HR.out (Below.refl _ _) HBL.out HLE.out ?_; intro v1 w2 hR1 hB1 hg1 hat1; obtain ⟨n1, A1, c1, hv1⟩ := Ru_slice hR1; subst hv1; have hB2 := (hg1.block B HBL.out HOW.out).trans HBB2.out; have b42 := ckA hB2 4 _ rfl; have f42 := free_of_one hB2 4; have HR1 := Lib.hid hR1; have HG1 := Lib.hid hg1; have HAT := Lib.hid hat1; have HB2 := Lib.hid hB2; clear hR1 hB1 hg1 hat1 hB2)
        have hs2 : Step (fun k => k = B ∨ v.ownBlock = some k) wr (w2.setCell ⟨B, 4, none⟩ (.slice A1 n1 c1)) := (((Step.refl _ wr).grown HG1.out (fun k e => .inl (.inr e))).setCell (p := ⟨B, 4, none⟩) (.inl (.inl rfl)) _)
        have hge : ∀ k, k = B ∨ v.ownBlock = some k → B ≤ k := by
          rintro k (rfl | h)
          · exact Nat.le_refl _
          · have := (Ru_lt HR.out h).1; omega
        have hval : rs.take (pre.length + 1) = rs.take pre.length ++ [(bitsOf (fun i => px (Y + pre.length) (X + i)) CW : Int)] := by
          obtain ⟨q, hq⟩ : ∃ q, rs[pre.length]? = some q := ⟨rs[pre.length]'(by omega), List.getElem?_eq_getElem _⟩
          rw [List.take_add_one, hq, hrs _ _ hq]
          rfl
        refine ⟨fun k => k = B ∨ (Value.slice A1 n1 c1).ownBlock = some k, ⟨.slice A1 n1 c1, rfl, HBA.out.trans (hs2.below hge (Nat.le_of_lt HBL.out)), cell_setB HB2.out 4 (.slice A1 n1 c1), ?_⟩, ?_, ?_, hs2⟩
        · rw [List.length_append, List.length_singleton, hval]
          refine Ru_move HR1.out (fun k hk => ?_)
          exact ((Step.refl (fun k => k = B) w2).setCell (p := ⟨B, 4, none⟩) (.inl rfl) (.slice A1 n1 c1)).1.2 k (Ru_lt HR1.out hk).2 (fun e => by have := (Ru_lt HR1.out hk).1; omega)
        · rintro k (rfl | h)
          · exact .inl (.inl rfl)
          · rcases HAT.out with e | ⟨b, e, hb⟩
            · exact .inl (.inr (e ▸ h))
            · rw [e] at h
              cases h
              exact .inr hb
        · have hz : (w2.setCell ⟨B, 4, none⟩ (.slice A1 n1 c1)).heap.size = w2.heap.size := by simp [World.setCell]
          rintro k (rfl | h)
          · rw [hz]
            exact lt_of_blk HB2.out
          · rw [hz]
            exact (Ru_lt HR1.out h).2
  case done =>
    rintro D xs O A hD hS ⟨v, rfl, hb, hB, hR⟩ hOD hK
    have hS' : xs.length = CH := hS
    obtain ⟨n1, A1, c1, rfl⟩ := Ru_slice hR
    rw [hS', ← hrl, List.take_length] at hR
    have hzA : A.heap[w.heap.size]? = _ := (hb.block w.heap.size (by have := HWB.out; omega)).trans HZB.out
    have y0 := ckA hB 0 _ rfl
    have y1 := ckA hB 1 _ rfl
    have y2 := ckA hB 2 _ rfl
    have y3 := ckA hB 3 _ rfl
    have y4 := ckA hB 4 _ rfl
    have z0 := ckA hzA 0 _ rfl
    have z1 := ckA hzA 1 _ rfl
    have z2 := ckA hzA 2 _ rfl
    have z3 := ckA hzA 3 _ rfl
    have z4 := ckA hzA 4 _ rfl
    have f0 := free_of_one hzA 0
    have f1 := free_of_one hzA 1
    have f2 := free_of_one hzA 2
    have f3 := free_of_one hzA 3
    have f4 := free_of_one hzA 4
    have HZA := Lib.hid hzA
    have HBA := Lib.hid hb
    have HRA := Lib.hid hR
    have HKK := Lib.hid hK
    have HOD := Lib.hid hOD
    have HD := Lib.hid hD
    have HBS := Lib.hid (lt_of_blk hB)
    clear hzA hb hR hK hOD hD hB hsz0 hMB
    gi_wp2
    have hset := step_set5 A w.heap.size (.int .i64 bl) (.int .i64 bt) (.int .i64 (CW : Int)) (.int .i64 (CH : Int)) (.slice A1 n1 c1)
    have hlt := HWB.out
    have hz2 := HZ2.out
    have hmb := HMB.out
    have hDB : B < D := by have := HD.out; omega
    have hKD := hset.same HKK.out (fun e => by omega)
    have hput := Step.putObj (((((A.setCell ⟨w.heap.size, 0, none⟩ (.int .i64 bl)).setCell ⟨w.heap.size, 1, none⟩ (.int .i64 bt)).setCell ⟨w.heap.size, 2, none⟩ (.int .i64 (CW : Int))).setCell ⟨w.heap.size, 3, none⟩ (.int .i64 (CH : Int))).setCell ⟨w.heap.size, 4, none⟩ (.slice A1 n1 c1)) D (.deferred none)
    refine ⟨by simp, .inl ⟨_, _, rfl, run_takeDeferred hKD, ?_⟩⟩
    have hcb := hput.same (cell_set5 (v0 := .int .i64 bl) (v1 := .int .i64 bt) (v2 := .int .i64 (CW : Int)) (v3 := .int .i64 (CH : Int)) (v4 := .slice A1 n1 c1) HZA.out) (fun e => by omega)
    refine ⟨_, results_c rfl _ _ w.heap.size 38 _ (0, 0) _ rfl hcb Try.underlying38 rfl (inf5 rfl), ⟨_, rfl, ?_⟩, ?_⟩
    · refine Kd.R_lower (Ru_move HRA.out (fun k hk => ?_)) (by omega)
      have hk2 := Ru_lt HRA.out hk
      exact (hput.1.2 k (Nat.lt_of_lt_of_le hk2.2 hset.size) (fun e => HOD.out (.inr (e ▸ hk)))).trans (hset.1.2 k hk2.2 (fun e => by omega))
    · have hs5 := (hset.mono (T' := fun k => w.heap.size ≤ k) (fun k e => by omega)).trans hput (fun k e => .inl (by omega))
      exact (HBW.out.trans (HBA.out.mono (by omega))).trans (hs5.below (fun k e => e) (by have := HBS.out; omega))
  case stop =>
    intro D c pre O A hD hS h
    exact h.elim
end Go.Proofs.Ytoleencecfjcjaa.At

