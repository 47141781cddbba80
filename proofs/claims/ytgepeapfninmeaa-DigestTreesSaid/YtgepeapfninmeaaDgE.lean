/- digest.rooted, digest.Verify. -/
import Derived.Test.YtgepeapfninmeaaDgD
import Derived.Deep.QuietTactic
import Derived.BigQuiet
set_option linter.unusedVariables false
set_option linter.unusedSimpArgs false
namespace Go.Proofs.Ytgepeapfninmeaa.Dg
open Go.RowKit Go.Proofs.YtgepeapfninmeaaW.PrintWords
/-- The strings of a root, one behind the other. -/
def RootB (h : Int) (top : ByteArray) : ByteArray := OfB ((⟨#[2]⟩ ++ strOfNums [h % 256]) ++ top)
theorem root_eq (h : Int) (b : ByteArray) : dg (fxs 7 [⟨#[2]⟩, strOfNums [h % 256], b]) (fys 11 [⟨#[2]⟩, strOfNums [h % 256], b]) = RootB h b := by
  rw [fxs_flat, fys_flat]
  simp [RootB, OfB]
/-- The numbers of a root. -/
def rx (h : Int) (b : ByteArray) : Int := fxs 7 [⟨#[2]⟩, strOfNums [h % 256], b]
def ry (h : Int) (b : ByteArray) : Int := fys 11 [⟨#[2]⟩, strOfNums [h % 256], b]
set_option maxHeartbeats 800000 in
theorem rooted_any (h : Int) (b : ByteArray) (hb : b.size ≤ 9223372036854775807) (w : World) :
    Calls Try.prog 31 #[.int .i64 h, .string b] w fun e w' => e = .returned (sumV (rx h b) (ry h b)) ∧ Below w.heap.size w w' := by
  have hcv : ∀ W : World, W.heap[w.heap.size + 1]? = some (.cells #[.int .u8 (h % 256)] 5 (0, 0)) → (convert 40 9 (.slice (some ⟨w.heap.size + 1, 0, none⟩) 1 1)).run Try.prog W = .ok (.string (strOfNums [h % 256])) W := fun W hW =>
    run_convert_bytes_arg W _ _ Try.underlying40 Try.underlying5 (w.heap.size + 1) 0 1 1 [h % 256] rfl (fun i hi => by rw [Nat.zero_add]; match i, hi with | 0, _ => exact cell_of_one hW) _ Try.underlying9
  have hcv2 := hcv _ (new2 w Z8 (.cells #[.int .u8 (h % 256)] 5))
  unfold Z8 at hcv2
  clear hcv
  go_enter Try.func31, Try.ntmps31
  go_wp2_with fail
  clear hcv2
  refine (of_any (some ⟨w.heap.size + 1 + 1, 0, none⟩) 3 [⟨#[2]⟩, strOfNums [h % 256], b] _ ?_ ?_).mono ?_
  · exact C_strs (by simp) (three_new _ _ _ _).2.2
  · intro s hs
    simp only [List.mem_cons, List.not_mem_nil, or_false] at hs
    rcases hs with rfl | rfl | rfl
    · decide
    · simp [strOfNums_size]
    · exact hb
  rintro e w1 ⟨rfl, hB1⟩
  have s1 := hB1.size
  simp at s1
  have hZ1 : w1.heap[w.heap.size]? = some Z8 := (hB1.block _ (by simp; omega)).trans (three_new _ _ _ _).1
  obtain ⟨m0, m1, m2, m3, m4, m5, m6, m7⟩ := cells8 hZ1
  obtain ⟨q0, q1, q2, q3, q4, q5, q6, q7⟩ := free8 hZ1
  have B2 : Below w.heap.size w w1 := Below.trans ((((Below.refl _ _).alloc (Nat.le_refl _) _).alloc (by simp) _).alloc (by simp; omega) _) (hB1.mono (by simp; omega))
  have HB := Lib.hid B2
  clear hZ1 hB1 B2 s1
  show _
  unfold sumV
  go_wp2
  refine bodyPost_ret (v := sumV (rx h b) (ry h b)) (by simp [results, Try.results31, go_sem, sumV, rx, ry, same_if, m0, m1, m2, m3, m4, m5, m6, m7]) rfl ⟨rfl, ?_⟩
  exact (((((((HB.out.setCell (p := ⟨_, 0, none⟩) (Nat.le_refl _) _).setCell (p := ⟨_, 1, none⟩) (Nat.le_refl _) _).setCell (p := ⟨_, 2, none⟩) (Nat.le_refl _) _).setCell (p := ⟨_, 3, none⟩) (Nat.le_refl _) _).setCell (p := ⟨_, 4, none⟩) (Nat.le_refl _) _).setCell (p := ⟨_, 5, none⟩) (Nat.le_refl _) _).setCell (p := ⟨_, 6, none⟩) (Nat.le_refl _) _).setCell (p := ⟨_, 7, none⟩) (Nat.le_refl _) _
end Go.Proofs.Ytgepeapfninmeaa.Dg
