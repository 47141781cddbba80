/- digest.taker itself, and digest.of: the digest of some strings, one behind the other. -/
import Derived.Test.YtgepeapfninmeaaDgB
set_option linter.unusedVariables false
set_option linter.unusedSimpArgs false
namespace Go.Proofs.Ytgepeapfninmeaa.Dg
open Go.RowKit Go.Proofs.YtgepeapfninmeaaW.PrintWords
set_option maxHeartbeats 400000 in
theorem taker_any (w : World) :
    Calls Try.prog 33 #[] w fun e w' => e = .returned (.tuple #[.func (.func 36) #[] #[.pointer (some ⟨w.heap.size, 0, none⟩), .pointer (some ⟨w.heap.size + 1, 0, none⟩)], .func (.func 37) #[] #[.pointer (some ⟨w.heap.size, 0, none⟩), .pointer (some ⟨w.heap.size + 1, 0, none⟩)]]) ∧
      w' = (w.alloc (.cells #[.int .i64 7] 3)).alloc (.cells #[.int .i64 11] 3) := by
  go_enter Try.func33, Try.ntmps33
  go_wp2
  go_ret2
  exact ⟨rfl, rfl⟩
/-- What the strings come to, one behind the other. -/
def fxs (x : Int) (l : List ByteArray) : Int := l.foldl (fun x s => fx x s.data.toList) x
def fys (x : Int) (l : List ByteArray) : Int := l.foldl (fun x s => fy x s.data.toList) x
theorem fxs_range (l : List ByteArray) : ∀ x : Int, 0 ≤ x → x < 2147483647 → 0 ≤ fxs x l ∧ fxs x l < 2147483647 := by
  induction l with
  | nil => intro x h0 h1; exact ⟨h0, h1⟩
  | cons c l ih => intro x h0 h1; obtain ⟨a, b⟩ := fx_range c.data.toList x h0 h1; exact ih _ a b
theorem fys_range (l : List ByteArray) : ∀ x : Int, 0 ≤ x → x < 2147483629 → 0 ≤ fys x l ∧ fys x l < 2147483629 := by
  induction l with
  | nil => intro x h0 h1; exact ⟨h0, h1⟩
  | cons c l ih => intro x h0 h1; obtain ⟨a, b⟩ := fy_range c.data.toList x h0 h1; exact ih _ a b
theorem fxs_snoc (l : List ByteArray) (k : Nat) (s : ByteArray) (h : l[k]? = some s) (x : Int) : fxs x (l.take (k + 1)) = fx (fxs x (l.take k)) s.data.toList := by
  rw [List.take_add_one, h]; simp [fxs]
theorem fys_snoc (l : List ByteArray) (k : Nat) (s : ByteArray) (h : l[k]? = some s) (x : Int) : fys x (l.take (k + 1)) = fy (fys x (l.take k)) s.data.toList := by
  rw [List.take_add_one, h]; simp [fys]
theorem three_new (w : World) (o1 o2 o3 : Obj) : (((w.alloc o1).alloc o2).alloc o3).heap[w.heap.size]? = some o1 ∧ (((w.alloc o1).alloc o2).alloc o3).heap[w.heap.size + 1]? = some o2 ∧ (((w.alloc o1).alloc o2).alloc o3).heap[w.heap.size + 1 + 1]? = some o3 := by
  refine ⟨?_, ?_, ?_⟩
  · rw [Below.heap_alloc _ _ _ (by simp; omega)]; exact new1 w o1 o2
  · rw [Below.heap_alloc _ _ _ (by simp)]; exact new2 w o1 o2
  · have h := new2 (w.alloc o1) o2 o3
    rwa [World.size_alloc] at h
def Take3 (w : World) (l : List ByteArray) (k : Nat) (wr : World) : Prop :=
  wr.heap[w.heap.size]? = some Z8 ∧ wr.heap[w.heap.size + 1]? = some (.cells #[.int .i64 (fxs 7 (l.take k))] 3 (0, 0)) ∧ wr.heap[w.heap.size + 1 + 1]? = some (.cells #[.int .i64 (fys 11 (l.take k))] 3 (0, 0)) ∧ Below w.heap.size w wr
set_option maxHeartbeats 400000 in
theorem of_any (A : Option Addr) (c : Nat) (l : List ByteArray) (w : World) (hr : Kd.C Kd.string w A l.length l) (hs : ∀ s ∈ l, s.size ≤ 9223372036854775807) :
    Calls Try.prog 25 #[.slice A l.length c] w fun e w' => e = .returned (sumV (fxs 7 l) (fys 11 l)) ∧ Below w.heap.size w w' := by
  have hl : l.length ≤ 9223372036854775807 := hr.2.1
  go_enter Try.func25, Try.ntmps25
  go_wp2_with (go_at_call 33; refine (taker_any _).mono ?_; rintro e w1 ⟨rfl, rfl⟩)
  go_loopw [13] (fun i wr => ∃ k : Nat, k ≤ l.length ∧ i = .int .i64 k ∧ Take3 w l k wr) (fun i _ => l.length - (intOf i).toNat)
  case atStart =>
    refine ⟨0, Nat.zero_le _, rfl, ?_⟩
    obtain ⟨n1, n2, n3⟩ := three_new w Z8 (.cells #[.int .i64 7] 3) (.cells #[.int .i64 11] 3)
    exact ⟨n1, n2, n3, (((Below.refl _ _).alloc (Nat.le_refl _) _).alloc (by simp) _).alloc (by simp; omega) _⟩
  case round =>
    obtain ⟨k, hk, rfl, hZ, hX, hY, hB⟩ := hrel
    by_cases hlt : k < l.length
    · obtain ⟨ad, rfl, hcell⟩ := Kd.at_string (Kd.C_below hr hB) (k : Int) (by omega) (by omega)
      have hget : l[k]? = some (rdOf ByteArray.empty l (k : Int)) := by simp [rdOf, List.getD_eq_getElem?_getD, List.getElem?_eq_getElem hlt]
      have hsz := hs _ (List.mem_of_getElem? hget)
      have EX := Lib.hid (fxs_snoc l k _ hget 7)
      have EY := Lib.hid (fys_snoc l k _ hget 11)
      obtain ⟨r1, r2⟩ := fxs_range (l.take k) 7 (by omega) (by omega)
      obtain ⟨r3, r4⟩ := fys_range (l.take k) 11 (by omega) (by omega)
      generalize rdOf ByteArray.empty l (k : Int) = s at *
      generalize fxs 7 (l.take k) = x at *
      generalize fys 11 (l.take k) = y at *
      rw [Int.toNat_natCast] at hcell
      have HX := Lib.hid hX
      have HY := Lib.hid hY
      have HZ := Lib.hid hZ
      have HR := Lib.hid hr
      clear hX hY hZ hr hget hs
      go_wp2_with (go_at_call 36; refine (take_any s hsz (w.heap.size + 1) (w.heap.size + 1 + 1) (by omega) x y r1 r2 r3 r4 _ HX.out HY.out).mono ?_; rintro e w1 ⟨rfl, hX1, hY1, hK1, hB1⟩)
      go_roundw
      case rel =>
        refine ⟨k + 1, by omega, by go_num, ?_, ?_, ?_, ?_⟩
        · exact (hK1.2 _ (lt_of_block HZ.out) (by omega)).trans HZ.out
        · rw [EX.out]; exact hX1
        · rw [EY.out]; exact hY1
        · exact hB.trans (hB1.mono (by omega))
      case measure => simp [intOf]; omega
    · have ek : l.take k = l := List.take_of_length_le (by omega)
      rw [ek] at hX hY
      have HX := Lib.hid hX
      have HY := Lib.hid hY
      have HZ := Lib.hid hZ
      clear hX hY hZ ek
      go_wp2_with (go_at_call 37; refine (done_any (w.heap.size + 1) (w.heap.size + 1 + 1) _ _ _ HX.out HY.out).mono ?_; rintro e w1 ⟨rfl, hB1⟩; have hZ1 := (hB1.block _ (lt_of_block HZ.out)).trans HZ.out; obtain ⟨m0, m1, m2, m3, m4, m5, m6, m7⟩ := cells8 hZ1; obtain ⟨q0, q1, q2, q3, q4, q5, q6, q7⟩ := free8 hZ1; clear hZ1; unfold sumV)
      refine bodyPost_ret (v := sumV (fxs 7 l) (fys 11 l)) (by simp [results, Try.results25, go_sem, sumV, same_if, m0, m1, m2, m3, m4, m5, m6, m7]) rfl ⟨rfl, ?_⟩
      have B2 := hB.trans (hB1.mono hB.size)
      exact (((((((B2.setCell (p := ⟨_, 0, none⟩) (Nat.le_refl _) _).setCell (p := ⟨_, 1, none⟩) (Nat.le_refl _) _).setCell (p := ⟨_, 2, none⟩) (Nat.le_refl _) _).setCell (p := ⟨_, 3, none⟩) (Nat.le_refl _) _).setCell (p := ⟨_, 4, none⟩) (Nat.le_refl _) _).setCell (p := ⟨_, 5, none⟩) (Nat.le_refl _) _).setCell (p := ⟨_, 6, none⟩) (Nat.le_refl _) _).setCell (p := ⟨_, 7, none⟩) (Nat.le_refl _) _
end Go.Proofs.Ytgepeapfninmeaa.Dg
