/- Several texts of this claim, one behind the other: RowS, RowT, RowD, RowC. -/
import Derived.Test.YtoleencecfjcjaaMgP
import Derived.SliceStrings
import Derived.ProofKit
import Derived.Deep.Slices
import Derived.OpenShut
import Derived.Lib.SmallJoins
import Derived.Test.YtoleencecfjcjaaProg
/- A law's argument that is a slice of strings: how it reads. -/
set_option linter.unusedVariables false
set_option linter.unusedSimpArgs false
namespace Go.Proofs.Ytoleencecfjcjaa.RowS
open Go.ChangeShapes Go.WideShapes Go.ChangeAt Go.RowKit Go.Proofs.YtoleencecfjcjaaW.PrintWords
end Go.Proofs.Ytoleencecfjcjaa.RowS

/- A law's argument that is a slice of structs or arrays: how it reads. -/
set_option linter.unusedVariables false
set_option linter.unusedSimpArgs false
namespace Go.Proofs.Ytoleencecfjcjaa.RowT
open Go.ChangeShapes Go.WideShapes Go.ChangeAt Go.RowKit Go.Proofs.YtoleencecfjcjaaW.PrintWords
theorem row_in {H : Type} {enc : TypeId × Value → H} {P : Program} {W : World} {base : Nat} {spare : Nat → Bool} {held : Bool} {t e : TypeId} {α : Type} (kd : Kd α) (ok : α → Prop) {a : Option Addr} {len cap fuel : Nat} {y : DataW H × List MemPlace}
    (ht : P.underlying t = some (.slice e)) (hc : P.cellsOf e = kd.sz) (hel : ∀ (n : Nat) (cs : List Value) (z : DataW H × List MemPlace), DataW.trod enc P W base spare held n e cs = some z → ∃ x, ok x ∧ kd.K W x cs)
    (h : DataW.trod enc P W base spare held fuel t [.slice a len cap] = some y) :
    ∃ l : List α, l.length = len ∧ Kd.C kd W a l.length l ∧ l.length ≤ cap ∧ cap ≤ 9223372036854775807 ∧ ∀ x ∈ l, ok x := by
  rcases Go.Deep.open_slice ht h with ⟨hcs, _⟩ | ⟨ad, ln, cp, m, n, D, Pl, hcs, _, hl, hm, hmm, _, hall⟩
  · simp at hcs
    obtain ⟨rfl, rfl, rfl⟩ := hcs
    exact ⟨[], rfl, Kd.C_nil kd W, Nat.le_refl _, Nat.zero_le _, by simp⟩
  · simp at hcs
    obtain ⟨rfl, rfl, rfl⟩ := hcs
    have hlm : len ≤ m := by rw [hmm]; split <;> omega
    have hx : ∀ i : Fin len, ∃ x, ok x ∧ ∃ cs, W.cells? base (ad.add (i.1 * P.cellsOf e)) (P.cellsOf e) = some cs ∧ kd.K W x cs := fun i => by
      obtain ⟨cs, h1, h2⟩ := hall i.1 (Nat.lt_of_lt_of_le i.2 hlm)
      obtain ⟨x, h3, h4⟩ := hel n cs _ h2
      exact ⟨x, h3, cs, h1, h4⟩
    refine ⟨(List.finRange len).map (fun i => (hx i).choose), by simp, ⟨rfl, ?_, fun _ => ⟨ad, rfl, fun j p hj => ?_⟩⟩, ?_, ?_, ?_⟩
    · unfold maxLen at *; simp; omega
    · simp only [List.getElem?_map, Option.map_eq_some_iff] at hj
      obtain ⟨i, hi, rfl⟩ := hj
      have hij : i.1 = j := by
        have := List.getElem?_eq_some_iff.1 hi
        obtain ⟨h1, h2⟩ := this
        simp at h2
        rw [← h2]
      obtain ⟨h3, cs, h4, h5⟩ := (hx i).choose_spec
      refine ⟨cs, kd.K_len h5, h5, fun k u hu => ?_⟩
      rw [hij, hc] at h4
      obtain ⟨_, h6⟩ := World.cells?_some h4
      have hk : k < kd.sz := by
        have h7 := (List.getElem?_eq_some_iff.1 hu).1
        have h8 := kd.K_len h5
        omega
      have h9 := h6.2 k hk
      rw [Addr.add_add] at h9
      rw [h9]
      exact hu
    · simp; omega
    · unfold maxLen at *; omega
    · intro x hx'
      simp only [List.mem_map] at hx'
      obtain ⟨i, _, rfl⟩ := hx'
      exact (hx i).choose_spec.1
end Go.Proofs.Ytoleencecfjcjaa.RowT

/- A law's arguments of all kinds: how they read. -/
set_option linter.unusedVariables false
set_option linter.unusedSimpArgs false
namespace Go.Proofs.Ytoleencecfjcjaa.RowD
open Go.ChangeShapes Go.WideShapes Go.ChangeAt Go.RowKit Go.Proofs.YtoleencecfjcjaaW.PrintWords
theorem okWide_array {P : Program} {W : World} {r : Reach} {b0 : Nat} {t e : TypeId} {n : Nat} {v : Value} (ht : P.underlying t = some (.array n e)) (h : Value.okWide P W r b0 t v) : ∃ cs, v = .agg cs ∧ cs.size = P.cellsOf t := by
  simp only [Value.okWide, ht] at h
  obtain ⟨cs, h1, h2, _⟩ := h
  exact ⟨cs, h1, h2⟩
theorem get_x {α : Type} {xs : List α} {n j : Nat} (h : xs.length = n) (hj : j < n) : ∃ y, xs[j]? = some y := ⟨_, List.getElem?_eq_getElem (h ▸ hj)⟩
theorem trod_cell {H : Type} {enc : TypeId × Value → H} {P : Program} {W : World} {base : Nat} {spare : Nat → Bool} {held : Bool} {t : TypeId} {m k : Nat} {cs ds : List Value} {xs : List (DataW H × List MemPlace)} {j : Nat} {y : DataW H × List MemPlace}
    (h : DataW.trod enc P W base spare held m t ((cs.drop k).take (P.cellsOf t)) = xs[j]?) (hy : xs[j]? = some y) (n : Nat) (hn : P.cellsOf t = n) (hd : (cs.drop k).take n = ds) : DataW.trod enc P W base spare held m t ds = some y := by
  rw [hn, hd] at h
  exact h.trans hy
theorem len2 {α : Type} {l : List α} (h : l.length = 2) : ∃ a b, l = [a, b] := by match l, h with | [a, b], _ => exact ⟨a, b, rfl⟩
theorem len3 {α : Type} {l : List α} (h : l.length = 3) : ∃ a b c, l = [a, b, c] := by match l, h with | [a, b, c], _ => exact ⟨a, b, c, rfl⟩
theorem len5 {α : Type} {l : List α} (h : l.length = 5) : ∃ a b c d e, l = [a, b, c, d, e] := by match l, h with | [a, b, c, d, e], _ => exact ⟨a, b, c, d, e, rfl⟩
end Go.Proofs.Ytoleencecfjcjaa.RowD

/- A law's argument that is a slice of calls of an atlas: two whole numbers and three more each. -/
set_option linter.unusedVariables false
set_option linter.unusedSimpArgs false
namespace Go.Proofs.Ytoleencecfjcjaa.RowC
open Go.ChangeShapes Go.WideShapes Go.ChangeAt Go.RowKit Go.Proofs.YtoleencecfjcjaaW.PrintWords
structure CallP where
  what : Int
  nm : Int
  q0 : Int
  q1 : Int
  q2 : Int
def ccells (x : CallP) : List Value := [.int .i64 x.what, .int .i64 x.nm, .int .i64 x.q0, .int .i64 x.q1, .int .i64 x.q2]
def kCall : Kd CallP where
  sz := 5
  E := []
  K := fun _ x cs => cs = ccells x
  M := fun _ _ _ x cs => cs = ccells x
  K_len := by rintro w x cs rfl; rfl
  K_one := by
    rintro w x cs rfl u hu
    simp [ccells] at hu
    rcases hu with rfl | rfl | rfl | rfl | rfl <;> rfl
  K_below := fun _ h => h
  K_of_M := fun h => h
  M_mono := fun _ h => h
  M_bound := fun h => h
  M_move := fun _ h => h
  M_lower := fun _ h => h
variable {H : Type} {enc : TypeId × Value → H} {W : World} {base : Nat} {spare : Nat → Bool} {held : Bool}
set_option maxRecDepth 100000 in
theorem q3_el (n : Nat) (cs : List Value) (z : DataW H × List MemPlace) (h : DataW.trod enc Try.prog W base spare held n 31 cs = some z) : ∃ a0 a1 a2 : Int, cs = [.int .i64 a0, .int .i64 a1, .int .i64 a2] := by
  obtain ⟨xs, m, _, _, hl, xl, hx⟩ := DataW.trod_array Try.underlying31 h
  obtain ⟨c0, c1, c2, rfl⟩ := RowD.len3 (hl.trans (by kernel_rfl))
  obtain ⟨y0, hy0⟩ := RowD.get_x (j := 0) xl (by decide)
  obtain ⟨y1, hy1⟩ := RowD.get_x (j := 1) xl (by decide)
  obtain ⟨y2, hy2⟩ := RowD.get_x (j := 2) xl (by decide)
  have h0 := RowD.trod_cell (hx 0 (by decide)) hy0 1 (by kernel_rfl) (ds := [c0]) rfl
  have h1 := RowD.trod_cell (hx 1 (by decide)) hy1 1 (by kernel_rfl) (ds := [c1]) rfl
  have h2 := RowD.trod_cell (hx 2 (by decide)) hy2 1 (by kernel_rfl) (ds := [c2]) rfl
  obtain ⟨a0, e0, _, w0⟩ := DataW.trod_int Try.underlying3 h0
  obtain ⟨a1, e1, _, w1⟩ := DataW.trod_int Try.underlying3 h1
  obtain ⟨a2, e2, _, w2⟩ := DataW.trod_int Try.underlying3 h2
  simp only [List.cons.injEq, and_true] at e0 e1 e2
  subst e0 e1 e2
  exact ⟨a0, a1, a2, rfl⟩
set_option maxRecDepth 100000 in
theorem call_el (n : Nat) (cs : List Value) (z : DataW H × List MemPlace) (h : DataW.trod enc Try.prog W base spare held n 33 cs = some z) : ∃ x : CallP, True ∧ kCall.K W x cs := by
  obtain ⟨xs, m, _, _, hl, xl, hx⟩ := DataW.trod_struct Try.underlying33 h
  obtain ⟨c0, c1, c2, c3, c4, rfl⟩ := RowD.len5 (hl.trans (by kernel_rfl))
  obtain ⟨y0, hy0⟩ := RowD.get_x (j := 0) xl (by decide)
  obtain ⟨y1, hy1⟩ := RowD.get_x (j := 1) xl (by decide)
  obtain ⟨y2, hy2⟩ := RowD.get_x (j := 2) xl (by decide)
  have h0 := RowD.trod_cell (hx 0 _ rfl) hy0 1 (by kernel_rfl) (ds := [c0]) rfl
  have h1 := RowD.trod_cell (hx 1 _ rfl) hy1 1 (by kernel_rfl) (ds := [c1]) rfl
  have h2 := RowD.trod_cell (hx 2 _ rfl) hy2 3 (by kernel_rfl) (ds := [c2, c3, c4]) rfl
  obtain ⟨a0, e0, _, w0⟩ := DataW.trod_int Try.underlying3 h0
  obtain ⟨a1, e1, _, w1⟩ := DataW.trod_int Try.underlying3 h1
  obtain ⟨q0, q1, q2, hk⟩ := q3_el _ _ _ h2
  simp only [List.cons.injEq, and_true] at e0 e1 hk
  obtain ⟨rfl, rfl, rfl⟩ := hk
  subst e0 e1
  exact ⟨⟨a0, a1, q0, q1, q2⟩, trivial, rfl⟩
theorem calls_in {a : Option Addr} {len cap fuel : Nat} {y : DataW H × List MemPlace} (h : DataW.trod enc Try.prog W base spare held fuel 23 [.slice a len cap] = some y) :
    ∃ l : List CallP, l.length = len ∧ Kd.C kCall W a l.length l ∧ l.length ≤ cap ∧ cap ≤ 9223372036854775807 ∧ ∀ x ∈ l, True :=
  RowT.row_in kCall (fun _ => True) Try.underlying23 (by kernel_rfl) call_el h
end Go.Proofs.Ytoleencecfjcjaa.RowC

