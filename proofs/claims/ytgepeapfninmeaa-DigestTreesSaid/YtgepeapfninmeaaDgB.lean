/- digest.taker's second closure, taker itself, and digest.of: the digest of some strings, one behind the other. -/
import Derived.Test.YtgepeapfninmeaaDgA
import Derived.Laws.Rows
import Derived.Laws.NewBlocks
import Derived.Deep.RegionWith
set_option linter.unusedVariables false
set_option linter.unusedSimpArgs false
namespace Go.Proofs.Ytgepeapfninmeaa.Dg
open Go.RowKit Go.Proofs.YtgepeapfninmeaaW.PrintWords
/-- A digest as an array: the bytes of two numbers. -/
def sumV (x y : Int) : Value := .agg #[.int .u8 (bb x 16777216), .int .u8 (bb x 65536), .int .u8 (bb x 256), .int .u8 (bb x 1), .int .u8 (bb y 16777216), .int .u8 (bb y 65536), .int .u8 (bb y 256), .int .u8 (bb y 1)]
theorem old_two {w w1 : World} {o1 o2 o : Obj} {b : Nat} (hk : Kept ((w.alloc o1).alloc o2) w1 (fun k => k = w.heap.size + 1)) (h : w.heap[b]? = some o) : w1.heap[b]? = some o := by
  have hl := lt_of_block h
  refine (hk.2 b (by simp; omega) (by omega)).trans ?_
  rw [Below.heap_alloc _ _ _ (by simp; omega), Below.heap_alloc _ _ _ hl]
  exact h
theorem mid_two {w w1 : World} {o1 o2 : Obj} (hk : Kept ((w.alloc o1).alloc o2) w1 (fun k => k = w.heap.size + 1)) : w1.heap[w.heap.size]? = some o1 :=
  (hk.2 w.heap.size (by simp; omega) (by omega)).trans (new1 w o1 o2)
theorem cells8 {w : World} {b : Nat} {v0 v1 v2 v3 v4 v5 v6 v7 : Value} {T : TypeId} (h : w.heap[b]? = some (.cells #[v0, v1, v2, v3, v4, v5, v6, v7] T (0, 0))) :
    w.cell? ⟨b, 0, none⟩ = some v0 ∧ w.cell? ⟨b, 1, none⟩ = some v1 ∧ w.cell? ⟨b, 2, none⟩ = some v2 ∧ w.cell? ⟨b, 3, none⟩ = some v3 ∧
    w.cell? ⟨b, 4, none⟩ = some v4 ∧ w.cell? ⟨b, 5, none⟩ = some v5 ∧ w.cell? ⟨b, 6, none⟩ = some v6 ∧ w.cell? ⟨b, 7, none⟩ = some v7 := by
  simp [World.cell?, h]
theorem free8 {w : World} {b : Nat} {v0 v1 v2 v3 v4 v5 v6 v7 : Value} {T : TypeId} (h : w.heap[b]? = some (.cells #[v0, v1, v2, v3, v4, v5, v6, v7] T (0, 0))) :
    w.frozen? ⟨b, 0, none⟩ = false ∧ w.frozen? ⟨b, 1, none⟩ = false ∧ w.frozen? ⟨b, 2, none⟩ = false ∧ w.frozen? ⟨b, 3, none⟩ = false ∧
    w.frozen? ⟨b, 4, none⟩ = false ∧ w.frozen? ⟨b, 5, none⟩ = false ∧ w.frozen? ⟨b, 6, none⟩ = false ∧ w.frozen? ⟨b, 7, none⟩ = false := by
  simp [World.frozen?, h]
theorem same_if (w : World) (a : Addr) (v : Value) (h : (w.cell? a).isSome = true) : (w.setCell a v).cell? a = some v := by
  obtain ⟨u, hu⟩ := Option.isSome_iff_exists.1 h
  exact World.cell?_setCell_same w a v hu
/-- Eight zeros. -/
def Z8 : Obj := .cells #[.int .u8 0, .int .u8 0, .int .u8 0, .int .u8 0, .int .u8 0, .int .u8 0, .int .u8 0, .int .u8 0] 46
set_option maxHeartbeats 400000 in
theorem done_any (X Y : Nat) (x y : Int) (w : World)
    (cX : w.heap[X]? = some (.cells #[.int .i64 x] 3 (0, 0))) (cY : w.heap[Y]? = some (.cells #[.int .i64 y] 3 (0, 0))) :
    Calls Try.prog 37 #[.pointer (some ⟨X, 0, none⟩), .pointer (some ⟨Y, 0, none⟩)] w fun e w' => e = .returned (sumV x y) ∧ Below w.heap.size w w' := by
  have hxc : w.cell? ⟨X, 0, none⟩ = some (.int .i64 x) := cell_of_one cX
  have ltX := lt_of_block cX
  have CY := Lib.hid cY
  clear cX cY
  go_enter Try.func37, Try.ntmps37
  go_wp2
  go_region_with (go_at_call 28; refine (put_blk (w.heap.size + 1) 0 8 (by omega) x _ #[.int .u8 0, .int .u8 0, .int .u8 0, .int .u8 0, .int .u8 0, .int .u8 0, .int .u8 0, .int .u8 0] 46 ?_ ?_).mono ?_; exact new2 _ _ _; simp; rintro e w1 ⟨rfl, h1, k1, b1, z1⟩; simp at h1 z1)
  all_goals
    have cY1 := old_two k1 CY.out
    have cM1 := mid_two k1
    have hyc : w1.cell? ⟨Y, 0, none⟩ = some (.int .i64 y) := cell_of_one cY1
    have B1 := Lib.hid (show Below w.heap.size w w1 by
      refine Below.trans ?_ (b1.mono (Nat.le_succ _))
      exact (((Below.refl _ _).alloc (Nat.le_refl _) _).alloc (by simp) _).drew)
    have K1 := Lib.hid h1
    have M1 := Lib.hid cM1
    clear cY1 cM1 h1 k1 b1 hxc
    go_wp2
    go_region_with (go_at_call 28; refine (put_blk (w.heap.size + 1) 4 4 (by omega) y _ #[.int .u8 (bb x 16777216), .int .u8 (bb x 65536), .int .u8 (bb x 256), .int .u8 (bb x 1), .int .u8 0, .int .u8 0, .int .u8 0, .int .u8 0] 46 ?_ ?_).mono ?_; exact K1.out; simp; rintro e w2 ⟨rfl, h2, k2, b2, z2⟩; simp at h2)
  all_goals
    have cM2 := (k2.2 w.heap.size (by have := lt_of_block M1.out; simpa using this) (by omega)).trans M1.out
    have B2 := Lib.hid (B1.out.drew.trans (b2.mono (Nat.le_succ _)))
    clear k2 b2 z1 z2
    obtain ⟨d0, d1, d2, d3, d4, d5, d6, d7⟩ := cells8 h2
    obtain ⟨m0, m1, m2, m3, m4, m5, m6, m7⟩ := cells8 cM2
    obtain ⟨q0, q1, q2, q3, q4, q5, q6, q7⟩ := free8 cM2
    clear h2 cM2
    go_wp2
    refine bodyPost_ret (v := sumV x y) (by simp [results, Try.results37, go_sem, sumV, same_if, m0, m1, m2, m3, m4, m5, m6, m7]) rfl ⟨rfl, ?_⟩
    exact (((((((B2.out.setCell (p := ⟨_, 0, none⟩) (Nat.le_refl _) _).setCell (p := ⟨_, 1, none⟩) (Nat.le_refl _) _).setCell (p := ⟨_, 2, none⟩) (Nat.le_refl _) _).setCell (p := ⟨_, 3, none⟩) (Nat.le_refl _) _).setCell (p := ⟨_, 4, none⟩) (Nat.le_refl _) _).setCell (p := ⟨_, 5, none⟩) (Nat.le_refl _) _).setCell (p := ⟨_, 6, none⟩) (Nat.le_refl _) _).setCell (p := ⟨_, 7, none⟩) (Nat.le_refl _) _
end Go.Proofs.Ytgepeapfninmeaa.Dg
