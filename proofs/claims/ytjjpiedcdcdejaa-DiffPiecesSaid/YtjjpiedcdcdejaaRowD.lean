/- A law's arguments of all kinds: how they read. -/
import Derived.Test.YtjjpiedcdcdejaaRowS
import Derived.OpenShut
import Derived.Lib.SmallJoins
set_option linter.unusedVariables false
set_option linter.unusedSimpArgs false
namespace Go.Proofs.Ytjjpiedcdcdejaa.RowD
open Go.ChangeShapes Go.WideShapes Go.ChangeAt Go.RowKit Go.Proofs.YtjjpiedcdcdejaaW.PrintWords
theorem ints_in {H : Type} {enc : TypeId × Value → H} {P : Program} {W : World} {base : Nat} {spare : Nat → Bool} {held : Bool} {t e : TypeId} {k : IntKind} {a : Option Addr} {len cap : Nat} {d : DataW H} {ps : List MemPlace}
    (ht : P.underlying t = some (.slice e)) (he : P.underlying e = some (.int k)) (hc : P.cellsOf e = 1) (h : DataW.Trod enc P W base spare held t (.slice a len cap) d ps) :
    ∃ l : List Int, l.length = len ∧ Kd.C (Kd.int k) W a l.length l ∧ l.length ≤ cap ∧ l.length ≤ 9223372036854775807 ∧ ∀ n ∈ l, (Lit.int k n).wf = true := by
  obtain ⟨fuel, hf⟩ := h
  rcases open_ints ht he hc hf with ⟨hcs, _⟩ | ⟨x, l, c, zs, hcs, _, hl, hm, hz, _, hcell, hws⟩
  · simp [Value.cells] at hcs
    obtain ⟨rfl, rfl, rfl⟩ := hcs
    exact ⟨[], rfl, Kd.C_nil (Kd.int k) W, Nat.le_refl _, by simp, by simp⟩
  · simp [Value.cells] at hcs
    obtain ⟨rfl, rfl, rfl⟩ := hcs
    unfold maxLen at hm
    have hlen : len ≤ zs.length := by
      rw [hz]
      split
      · exact hl
      · exact Nat.le_refl _
    have e1 : (zs.take len).length = len := by simp; omega
    refine ⟨zs.take len, e1, ?_, by omega, by omega, fun s hs => hws s (List.mem_of_mem_take hs)⟩
    refine ⟨rfl, by omega, fun _ => ⟨x, rfl, fun j p hj => ⟨[.int k p], rfl, rfl, ?_⟩⟩⟩
    intro i u hu
    cases i with
    | succ i => simp at hu
    | zero =>
      simp at hu
      subst hu
      rw [List.getElem?_take] at hj
      split at hj
      · have hjl := (List.getElem?_eq_some_iff.1 hj).1
        have := hcell j hjl
        rw [List.getD_eq_getElem?_getD, hj] at this
        rwa [show (Kd.int k).sz = 1 from rfl, Nat.mul_one, Nat.add_zero]
      · cases hj
theorem get_x {α : Type} {xs : List α} {n j : Nat} (h : xs.length = n) (hj : j < n) : ∃ y, xs[j]? = some y := ⟨_, List.getElem?_eq_getElem (h ▸ hj)⟩
theorem trod_cell {H : Type} {enc : TypeId × Value → H} {P : Program} {W : World} {base : Nat} {spare : Nat → Bool} {held : Bool} {t : TypeId} {m k : Nat} {cs ds : List Value} {xs : List (DataW H × List MemPlace)} {j : Nat} {y : DataW H × List MemPlace}
    (h : DataW.trod enc P W base spare held m t ((cs.drop k).take (P.cellsOf t)) = xs[j]?) (hy : xs[j]? = some y) (n : Nat) (hn : P.cellsOf t = n) (hd : (cs.drop k).take n = ds) : DataW.trod enc P W base spare held m t ds = some y := by
  rw [hn, hd] at h
  exact h.trans hy
theorem len2 {α : Type} {l : List α} (h : l.length = 2) : ∃ a b, l = [a, b] := by match l, h with | [a, b], _ => exact ⟨a, b, rfl⟩
end Go.Proofs.Ytjjpiedcdcdejaa.RowD
