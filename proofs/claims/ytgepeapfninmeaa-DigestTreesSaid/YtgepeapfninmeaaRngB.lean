/- A step of a region that draws its order, in a round of a range over a function: out of the plain law of the operation. And append, there. No program in it. -/
import Derived.Test.YtgepeapfninmeaaRngA
import Derived.Shelf.RegionOpen
import Derived.Deep.AppendLies
set_option linter.unusedVariables false
set_option linter.unusedSimpArgs false
namespace Go.Proofs.Ytgepeapfninmeaa.Rng
open Go.RowKit Go.Proofs.YtgepeapfninmeaaW.PrintWords
theorem wpIn_round {P : Program} {l n : Nat} {o : Oper} {a : Act} {w : World} {K : Act → World → Prop} {Q : Exit → Act → World → Prop} (hd : ∀ c, o.op ≠ .defer c) (h : o.wpIn Fence.wide n P a w K Q) : o.wpIn (Fence.wide.inRound l) n P a w K Q := by
  refine ⟨fun f _ => trivial, ?_⟩
  have h2 := h.2
  rw [Oper.semAt_eq _ _ _ hd] at h2 ⊢
  exact h2
theorem wpOpIn_round {P : Program} {l n i : Nat} {ops : Array Oper} {a : Act} {w : World} {K K' : Act → World → Prop} {Q : Exit → Act → World → Prop} (hd : ∀ o ∈ ops, ∀ c, o.op ≠ .defer c) (hK : ∀ a w, K a w → K' a w)
    (h : wpOpIn Fence.wide n P ops Q i K a w) : wpOpIn (Fence.wide.inRound l) n P ops Q i K' a w := by
  unfold wpOpIn at h ⊢
  cases ho : ops[i]? with
  | none => rw [ho] at h; exact hK _ _ h
  | some o =>
    rw [ho] at h
    simp only at h ⊢
    have hm : o ∈ ops := by
      obtain ⟨hi, rfl⟩ := Array.getElem?_eq_some_iff.1 ho
      exact Array.getElem_mem hi
    by_cases hw : Region.wanted o (yielded ops a.tmps) = true
    · rw [if_pos hw] at h ⊢
      exact Oper.wpIn_mono hK (wpIn_round (hd o hm) h)
    · rw [if_neg hw] at h ⊢
      exact ⟨fun f _ => trivial, hK _ _ h.2⟩
theorem wpAnyIn_round {P : Program} {l n : Nat} {md : Region.Mode} {ops : Array Oper} {Q : Exit → Act → World → Prop} (hd : ∀ o ∈ ops, ∀ c, o.op ≠ .defer c) :
    ∀ (fuel : Nat) (listed : Array Bool) (a : Act) (w : World), wpAnyIn Fence.wide n P md ops Q fuel listed a w → wpAnyIn (Fence.wide.inRound l) n P md ops Q fuel listed a w
  | 0, _, _, _, h => h
  | fuel + 1, _, _, _, h => ⟨h.1, fun i hi => wpOpIn_round hd (fun a w h' => wpAnyIn_round hd fuel _ a w h') (h.2 i hi)⟩
/-- A region that draws its order, in a round: as outside of one, if no call in it is deferred. -/
theorem region_round {P : Program} {l n id : Nat} {ops : Array Oper} {Q : Exit → Act → World → Prop} {a : Act} {w : World} (hd : ops.all (fun o => match o.op with | .defer _ => false | _ => true) = true) (hm : P.follows .mixedOrders = true)
    (h : wpAnyIn Fence.wide n P .any ops Q ops.size (Array.replicate ops.size false) a w.drew) : (Code.region id ops true).wpIn (Fence.wide.inRound l) n P Q a w := by
  refine wpIn_region_any hm (wpAnyIn_round ?_ _ _ _ _ h)
  intro o ho c hc
  have := Array.all_eq_true_iff_forall_mem.1 hd o ho
  rw [hc] at this
  simp at this
/-- An operation's plain law serves behind the fence that lets everything through. -/
theorem wideIn_of_wp {P : Program} {n : Nat} {o : Oper} {a : Act} {w : World} {K : Act → World → Prop} {Q : Exit → Act → World → Prop} (h : o.wp P a w K Q) : o.wpIn Fence.wide n P a w K Q := by
  refine ⟨fun f _ => trivial, ?_⟩
  show o.uponIn Fence.wide n P a K Q ((execOp a.eval o).run P w)
  unfold Oper.wp at h
  generalize (execOp a.eval o).run P w = r at *
  have hn : Fence.wide.depth.isSome = true → 1 ≤ n := fun h => absurd h (by simp [Fence.wide])
  cases r with
  | ok x w' =>
    cases x with
    | value v => exact h
    | skip => exact h
    | defer d => exact h
    | enter f args => exact ⟨hn, callsIn_wide.2 h⟩
    | row row args => exact ⟨hn, fun c cs _ => by obtain ⟨v, w2, hr, hst⟩ := h c cs; exact ⟨v, w2, hr, stepsIn_wide.2 hst⟩⟩
    | _ => exact h.elim
  | halt x w' =>
    cases x with
    | panic v => exact h
    | _ => exact h.elim
/-- append, as one step of a region that draws its order. -/
theorem stepIn_append {P : Program} {m0 : Nat} {w : World} {ops : Array Oper} {o : Oper} {a : Act} {K : Act → World → Prop} {Q : Exit → Act → World → Prop} {E : Prop} (hgd : o.guard = none) (s x : Operand) (t : TypeId)
    (ho : o.op = .call { callee := .builtin .append, args := #[s, x], argTypes := #[t, t] })
    (base : Nat) (e : TypeId) (z : Value) (bytes : Nat) (ht : P.underlying t = some (.slice e)) (hinfo : (P.info? e).map (fun i => (i.zero, i.size, i.bytes)) = some (some z, 1, bytes)) (hzs : z.cells.size = 1)
    (v : Value) (n : Nat) (xs : List Value) (hs : a.eval s = v) (hown : w.ownsRow base e 1 v n xs)
    (g1 : Nat) (y : Value) (hx : a.eval x = .slice (some ⟨g1, 0, none⟩) 1 1) (hy : w.heap[g1]? = some (.cells #[y] e (0, 0))) (h1 : y.oneCell' = true)
    (h63 : n + 1 ≤ maxLen) (hbytes : (n + 1) * bytes ≤ 140737488355328) (hbase : base ≤ w.heap.size)
    (h : ∀ g cap w', w'.ownsRow base e 1 (.slice (some ⟨g, 0, none⟩) (n + 1) cap) (n + 1) (xs ++ [y]) → w.grownBy w' v.ownBlock → (v.ownBlock = some g ∨ g = w.heap.size) → g < w'.heap.size → K (a.put o.dst (.slice (some ⟨g, 0, none⟩) (n + 1) cap)) w') :
    if Region.wanted o (yielded ops a.tmps) = true then Oper.wpIn Fence.wide m0 P o a w K Q else E := by
  have hw : Region.wanted o (yielded ops a.tmps) = true := by simp [Region.wanted, hgd]
  rw [if_pos hw]
  obtain ⟨i0, hi, hzz⟩ := Option.map_eq_some_iff.1 hinfo
  simp only [Prod.mk.injEq] at hzz
  obtain ⟨hz0, hz1, hz2⟩ := hzz
  refine wideIn_of_wp ?_
  refine wp_append_lies w s x t ho base e i0 z 1 bytes ht hi hz0 hz1 hz2 hzs (by omega) v n xs hs hown ⟨g1, 0, none⟩ 1 1 [y] hx rfl ?_ (by simpa using h1) (by omega) h63 hbytes hbase w.heap.size rfl h
  exact World.news_of_block hy
end Go.Proofs.Ytgepeapfninmeaa.Rng
