/- A law's argument that is a slice of strings: how it reads. -/
import Derived.Test.YtjjpiedcdcdejaaWMore
import Derived.SliceStrings
import Derived.ProofKit
set_option linter.unusedVariables false
set_option linter.unusedSimpArgs false
namespace Go.Proofs.Ytjjpiedcdcdejaa.RowS
open Go.ChangeShapes Go.WideShapes Go.ChangeAt Go.RowKit Go.Proofs.YtjjpiedcdcdejaaW.PrintWords
theorem strs_in {H : Type} {enc : TypeId × Value → H} {P : Program} {W : World} {base : Nat} {spare : Nat → Bool} {held : Bool} {t e : TypeId} {a : Option Addr} {len cap : Nat} {d : DataW H} {ps : List MemPlace}
    (ht : P.underlying t = some (.slice e)) (he : P.underlying e = some .string) (hc : P.cellsOf e = 1) (h : DataW.Trod enc P W base spare held t (.slice a len cap) d ps) :
    ∃ l : List ByteArray, l.length = len ∧ Kd.C Kd.string W a l.length l ∧ l.length ≤ cap ∧ ∀ s ∈ l, s.size ≤ 9223372036854775807 := by
  obtain ⟨fuel, hf⟩ := h
  rcases open_strings ht he hc hf with ⟨hcs, _⟩ | ⟨x, l, c, ss, hcs, _, hl, hm, hz, _, hcell, hws⟩
  · simp [Value.cells] at hcs
    obtain ⟨rfl, rfl, rfl⟩ := hcs
    exact ⟨[], rfl, Kd.C_nil Kd.string W, Nat.le_refl _, by simp⟩
  · simp [Value.cells] at hcs
    obtain ⟨rfl, rfl, rfl⟩ := hcs
    unfold maxLen at hm hws
    have hlen : len ≤ ss.length := by
      rw [hz]
      split
      · exact hl
      · exact Nat.le_refl _
    have e1 : (ss.take len).length = len := by simp; omega
    refine ⟨ss.take len, e1, ?_, by omega, fun s hs => hws s (List.mem_of_mem_take hs)⟩
    refine ⟨rfl, by omega, fun _ => ⟨x, rfl, fun j p hj => ⟨[.string p], rfl, rfl, ?_⟩⟩⟩
    intro i u hu
    cases i with
    | succ i => simp at hu
    | zero =>
      simp at hu
      subst hu
      rw [List.getElem?_take] at hj
      split at hj
      · have hjl := (List.getElem?_eq_some_iff.1 hj).1
        have := hcell j hjl
        rw [List.getD_eq_getElem?_getD, hj] at this
        rwa [show Kd.string.sz = 1 from rfl, Nat.mul_one, Nat.add_zero]
      · cases hj
end Go.Proofs.Ytjjpiedcdcdejaa.RowS
