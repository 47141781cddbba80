/- Two arrays of eight bytes are compared. -/
import Derived.Test.YtgepeapfninmeaaDgE
import Derived.ChangeKeysEq
import Derived.Laws.StructEq
import Derived.Lib.ConvBytes
set_option linter.unusedVariables false
set_option linter.unusedSimpArgs false
namespace Go.Proofs.Ytgepeapfninmeaa.Dg
open Go.RowKit Go.Proofs.YtgepeapfninmeaaW.PrintWords
def arr8 (l : List Int) : Array Value := (l.map (Value.int .u8)).toArray
theorem eqItems_ints (W : World) (xs ys : List Int) (d : Nat) : ∀ is : List Nat, (∀ i ∈ is, i < xs.length ∧ i < ys.length) →
    (Op.eqItems (d + 1) 5 1 (arr8 xs) (arr8 ys) is).run Try.prog W = .ok (is.all fun i => xs.getD i 0 == ys.getD i 0) W := by
  intro is
  induction is with
  | nil => intro _; simp [Op.eqItems]
  | cons i is ih =>
    intro h
    obtain ⟨h1, h2⟩ := h i (by simp)
    have ih' := ih (fun j hj => h j (by simp [hj]))
    have hk : Try.prog.plainKey 5 = true := by kernel_rfl
    have p1 : (part 5 (arr8 xs) (i * 1)).run Try.prog W = .ok (.int .u8 (xs.getD i 0)) W := run_part_plain W hk (by simp [arr8, h1])
    have p2 : (part 5 (arr8 ys) (i * 1)).run Try.prog W = .ok (.int .u8 (ys.getD i 0)) W := run_part_plain W hk (by simp [arr8, h2])
    have p3 := run_equalIn_int (P := Try.prog) W d 5 .u8 .u8 (xs.getD i 0) (ys.getD i 0) Try.underlying5
    rw [Op.eqItems]
    simp only [Sem.run_bind, p1, p2, p3, Result.andThen_ok, List.all_cons]
    cases hb : (xs.getD i 0 == ys.getD i 0)
    · simp
    · simpa using ih'
theorem eq8 (W : World) (a0 a1 a2 a3 a4 a5 a6 a7 b0 b1 b2 b3 b4 b5 b6 b7 : Int) :
    (Op.equalIn 10000 46 (.agg #[.int .u8 a0, .int .u8 a1, .int .u8 a2, .int .u8 a3, .int .u8 a4, .int .u8 a5, .int .u8 a6, .int .u8 a7]) (.agg #[.int .u8 b0, .int .u8 b1, .int .u8 b2, .int .u8 b3, .int .u8 b4, .int .u8 b5, .int .u8 b6, .int .u8 b7])).run Try.prog W
      = .ok (decide ([a0, a1, a2, a3, a4, a5, a6, a7] = [b0, b1, b2, b3, b4, b5, b6, b7])) W := by
  obtain ⟨i, hi⟩ : ∃ i, Try.prog.info? 5 = some i := ⟨_, rfl⟩
  have hc : Try.prog.cellsOf 5 = 1 := by kernel_rfl
  have h := run_equalIn_array (P := Try.prog) W 9999 (arr8 [a0, a1, a2, a3, a4, a5, a6, a7]) (arr8 [b0, b1, b2, b3, b4, b5, b6, b7]) Try.underlying46 hi
  rw [hc, eqItems_ints W _ _ 9998 _ (by intro i hi; simp at hi ⊢; omega)] at h
  refine h.trans ?_
  congr 1
  rw [Bool.eq_iff_iff]
  simp [List.range, List.range.loop]
end Go.Proofs.Ytgepeapfninmeaa.Dg
