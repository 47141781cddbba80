/- A law's arguments of all kinds: how they read. -/
import Derived.Test.YtoolionhheiihaaRowS
import Derived.OpenShut
import Derived.Lib.SmallJoins
set_option linter.unusedVariables false
set_option linter.unusedSimpArgs false
namespace Go.Proofs.Ytoolionhheiihaa.RowD
open Go.ChangeShapes Go.WideShapes Go.ChangeAt Go.RowKit Go.Proofs.YtoolionhheiihaaW.PrintWords
theorem okWide_array {P : Program} {W : World} {r : Reach} {b0 : Nat} {t e : TypeId} {n : Nat} {v : Value} (ht : P.underlying t = some (.array n e)) (h : Value.okWide P W r b0 t v) : ∃ cs, v = .agg cs ∧ cs.size = P.cellsOf t := by
  simp only [Value.okWide, ht] at h
  obtain ⟨cs, h1, h2, _⟩ := h
  exact ⟨cs, h1, h2⟩
theorem get_x {α : Type} {xs : List α} {n j : Nat} (h : xs.length = n) (hj : j < n) : ∃ y, xs[j]? = some y := ⟨_, List.getElem?_eq_getElem (h ▸ hj)⟩
theorem trod_cell {H : Type} {enc : TypeId × Value → H} {P : Program} {W : World} {base : Nat} {spare : Nat → Bool} {held : Bool} {t : TypeId} {m k : Nat} {cs ds : List Value} {xs : List (DataW H × List MemPlace)} {j : Nat} {y : DataW H × List MemPlace}
    (h : DataW.trod enc P W base spare held m t ((cs.drop k).take (P.cellsOf t)) = xs[j]?) (hy : xs[j]? = some y) (n : Nat) (hn : P.cellsOf t = n) (hd : (cs.drop k).take n = ds) : DataW.trod enc P W base spare held m t ds = some y := by
  rw [hn, hd] at h
  exact h.trans hy
theorem len2 {α : Type} {l : List α} (h : l.length = 2) : ∃ a b, l = [a, b] := by match l, h with | [a, b], _ => exact ⟨a, b, rfl⟩
theorem len5 {α : Type} {l : List α} (h : l.length = 5) : ∃ a b c d e, l = [a, b, c, d, e] := by match l, h with | [a, b, c, d, e], _ => exact ⟨a, b, c, d, e, rfl⟩
end Go.Proofs.Ytoolionhheiihaa.RowD
