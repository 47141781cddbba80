/- digest.sum.text, digest.Of, digest.Pair, digest.rooted. -/
import Derived.Test.YtgepeapfninmeaaDgC
import Derived.Laws.BytesArg
import Derived.ShutString
set_option linter.unusedVariables false
set_option linter.unusedSimpArgs false
namespace Go.Proofs.Ytgepeapfninmeaa.Dg
open Go.RowKit Go.Proofs.YtgepeapfninmeaaW.PrintWords
/-- A digest as a string. -/
def dg (x y : Int) : ByteArray := strOfNums [bb x 16777216, bb x 65536, bb x 256, bb x 1, bb y 16777216, bb y 65536, bb y 256, bb y 1]
set_option maxHeartbeats 400000 in
theorem text_any (x y : Int) (w : World) :
    Calls Try.prog 26 #[sumV x y] w fun e w' => e = .returned (.string (dg x y)) ∧ Below w.heap.size w w' := by
  obtain ⟨o, ho⟩ : ∃ o, o = Obj.cells #[.int .u8 (bb x 16777216), .int .u8 (bb x 65536), .int .u8 (bb x 256), .int .u8 (bb x 1), .int .u8 (bb y 16777216), .int .u8 (bb y 65536), .int .u8 (bb y 256), .int .u8 (bb y 1)] 46 (0, 0) := ⟨_, rfl⟩
  have hb : (w.alloc o).heap[w.heap.size]? = some (.cells #[.int .u8 (bb x 16777216), .int .u8 (bb x 65536), .int .u8 (bb x 256), .int .u8 (bb x 1), .int .u8 (bb y 16777216), .int .u8 (bb y 65536), .int .u8 (bb y 256), .int .u8 (bb y 1)] 46 (0, 0)) := by rw [ho]; exact heap_alloc_new _ _
  obtain ⟨d0, d1, d2, d3, d4, d5, d6, d7⟩ := cells8 hb
  have hcv : (convert 40 9 (.slice (some ⟨w.heap.size, 0, none⟩) 8 8)).run Try.prog (w.alloc o) = .ok (.string (dg x y)) (w.alloc o) := by
    refine run_convert_bytes_arg (w.alloc o) _ _ Try.underlying40 Try.underlying5 w.heap.size 0 8 8 [bb x 16777216, bb x 65536, bb x 256, bb x 1, bb y 16777216, bb y 65536, bb y 256, bb y 1] rfl ?_ _ Try.underlying9
    intro i hi
    rw [Nat.zero_add]
    match i, hi with
    | 0, _ => exact d0
    | 1, _ => exact d1
    | 2, _ => exact d2
    | 3, _ => exact d3
    | 4, _ => exact d4
    | 5, _ => exact d5
    | 6, _ => exact d6
    | 7, _ => exact d7
  rw [ho] at hcv
  clear hb d0 d1 d2 d3 d4 d5 d6 d7 ho
  unfold sumV
  go_enter Try.func26, Try.ntmps26
  go_wp2
  go_ret
  exact ⟨rfl, (Below.refl _ _).alloc (Nat.le_refl _) _⟩
theorem C_strs {w : World} {b : Nat} {l : List ByteArray} {T : TypeId} (hl : l.length ≤ 9223372036854775807) (h : w.heap[b]? = some (.cells (l.map Value.string).toArray T (0, 0))) : Kd.C Kd.string w (some ⟨b, 0, none⟩) l.length l := by
  refine ⟨rfl, hl, fun _ => ⟨_, rfl, fun j p hj => ⟨[.string p], rfl, rfl, ?_⟩⟩⟩
  intro i u hu
  cases i with
  | succ i => simp at hu
  | zero =>
    simp at hu
    subst hu
    have hj' := (List.getElem?_eq_some_iff.1 hj)
    obtain ⟨hlt, rfl⟩ := hj'
    have e : (⟨b, 0, none⟩ : Addr).add (j * Kd.string.sz + 0) = ⟨b, j, none⟩ := by rw [add_plain]; simp [show Kd.string.sz = 1 from rfl]
    rw [e]
    simp [World.cell?, h, hlt]
/-- What digest.Of returns. -/
def OfB (a : ByteArray) : ByteArray := dg (fx 7 a.data.toList) (fy 11 a.data.toList)
set_option maxHeartbeats 400000 in
theorem Of_any (a : ByteArray) (ha : a.size ≤ 9223372036854775807) (w : World) :
    Calls Try.prog 13 #[.string a] w fun e w' => e = .returned (.string (OfB a)) ∧ Below w.heap.size w w' := by
  go_enter Try.func13, Try.ntmps13
  go_wp2_with (first | (go_at_call 25; refine (of_any (some ⟨w.heap.size, 0, none⟩) 1 [a] _ ?c1 ?c2).mono ?_; (case c1 => exact C_strs (by simp) (heap_alloc_new w _)); (case c2 => simp; exact ha); rintro e w1 ⟨rfl, hB1⟩) | (go_at_call 26; refine (text_any _ _ _).mono ?_; rintro e w2 ⟨rfl, hB2⟩))
  go_ret
  exact ⟨rfl, ((Below.refl _ _).alloc (Nat.le_refl _) _).trans ((hB1.mono (by simp)).trans (hB2.mono (by have := hB1.size; simp at this; omega)))⟩
theorem fx_append (a b : List UInt8) (x : Int) : fx x (a ++ b) = fx (fx x a) b := by simp [fx]
theorem fy_append (a b : List UInt8) (x : Int) : fy x (a ++ b) = fy (fy x a) b := by simp [fy]
theorem fxs_flat (l : List ByteArray) : ∀ x : Int, fxs x l = fx x (l.flatMap fun s => s.data.toList) := by
  induction l with
  | nil => intro x; rfl
  | cons s l ih => intro x; rw [List.flatMap_cons, fx_append, ← ih]; rfl
theorem fys_flat (l : List ByteArray) : ∀ x : Int, fys x l = fy x (l.flatMap fun s => s.data.toList) := by
  induction l with
  | nil => intro x; rfl
  | cons s l ih => intro x; rw [List.flatMap_cons, fy_append, ← ih]; rfl
/-- The four bytes of a length. -/
def n4 (n : Nat) : ByteArray := strOfNums [bb n 16777216, bb n 65536, bb n 256, bb n 1]
/-- What digest.Pair returns. -/
def PairB (a b : ByteArray) : ByteArray := OfB (((⟨#[1]⟩ ++ n4 a.size) ++ a) ++ b)
theorem pair_eq (a b : ByteArray) : dg (fxs 7 [⟨#[1]⟩, n4 a.size, a, b]) (fys 11 [⟨#[1]⟩, n4 a.size, a, b]) = PairB a b := by
  rw [fxs_flat, fys_flat]
  simp [PairB, OfB]
theorem one4 {w : World} {b : Nat} {v0 v1 v2 v3 : Value} {T : TypeId} (h : w.heap[b]? = some (.cells #[v0, v1, v2, v3] T (0, 0))) :
    w.cell? ⟨b, 0, none⟩ = some v0 ∧ w.cell? ⟨b, 1, none⟩ = some v1 ∧ w.cell? ⟨b, 2, none⟩ = some v2 ∧ w.cell? ⟨b, 3, none⟩ = some v3 := by
  simp [World.cell?, h]
theorem new_at {w : World} {n : Nat} (h : w.heap.size = n) (o : Obj) : (w.alloc o).heap[n]? = some o := h ▸ heap_alloc_new w o
theorem n4_size (n : Nat) : (n4 n).size = 4 := by simp [n4, strOfNums_size]
set_option maxHeartbeats 800000 in
theorem Pair_any (a b : ByteArray) (ha : a.size ≤ 9223372036854775807) (hb : b.size ≤ 9223372036854775807) (w : World) :
    Calls Try.prog 15 #[.string a, .string b] w fun e w' => e = .returned (.string (PairB a b)) ∧ Below w.heap.size w w' := by
  go_enter Try.func15, Try.ntmps15
  go_wp2_with (go_at_call 28; refine (put_blk w.heap.size 0 4 (by omega) (a.size : Int) _ #[.int .u8 0, .int .u8 0, .int .u8 0, .int .u8 0] 50 ?c1 ?c2).mono ?_; (case c1 => exact heap_alloc_new w _); (case c2 => simp); rintro e w1 ⟨rfl, h1, k1, b1, z1⟩; simp at h1 z1; obtain ⟨d0, d1, d2, d3⟩ := one4 h1; have hcv : (convert 40 9 (.slice (some ⟨w.heap.size, 0, none⟩) 4 4)).run Try.prog w1 = .ok (.string (n4 a.size)) w1 := run_convert_bytes_arg w1 _ _ Try.underlying40 Try.underlying5 w.heap.size 0 4 4 [bb a.size 16777216, bb a.size 65536, bb a.size 256, bb a.size 1] rfl (fun i hi => by rw [Nat.zero_add]; match i, hi with | 0, _ => exact d0 | 1, _ => exact d1 | 2, _ => exact d2 | 3, _ => exact d3) _ Try.underlying9; have B1 := Lib.hid (Below.trans ((Below.refl w.heap.size w).alloc (Nat.le_refl _) _) b1); clear b1 k1 h1 d0 d1 d2 d3)
  have Z1 := Lib.hid z1
  clear z1 hcv
  refine (of_any (some ⟨w.heap.size + 1, 0, none⟩) 4 [⟨#[1]⟩, n4 a.size, a, b] _ ?_ ?_).mono ?_
  · exact C_strs (by simp) (new_at Z1.out _)
  · intro s hs
    simp only [List.mem_cons, List.not_mem_nil, or_false] at hs
    rcases hs with rfl | rfl | rfl | rfl
    · decide
    · rw [n4_size]; omega
    · exact ha
    · exact hb
  rintro e w2 ⟨rfl, hB2⟩
  go_wp2_with (go_at_call 26; refine (text_any _ _ _).mono ?_; rintro e w3 ⟨rfl, hB3⟩)
  go_ret
  rw [pair_eq]
  have s2 := hB2.size
  have s1 := Z1.out
  simp at s2
  exact ⟨rfl, B1.out.trans (((Below.refl _ _).alloc (by omega) _).trans ((hB2.mono (by simp; omega)).trans (hB3.mono (by omega))))⟩
end Go.Proofs.Ytgepeapfninmeaa.Dg
