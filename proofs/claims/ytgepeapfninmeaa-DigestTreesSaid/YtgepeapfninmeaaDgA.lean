/- The closures of digest.taker, and digest.put, as the machine runs them: what each writes. -/
import Derived.Test.YtgepeapfninmeaaProg
import Derived.Test.YtgepeapfninmeaaWKept
import Derived.Lib.Hide
import Derived.BigRegion
set_option linter.unusedVariables false
set_option linter.unusedSimpArgs false
namespace Go.Proofs.Ytgepeapfninmeaa.Dg
open Go.RowKit Go.Proofs.YtgepeapfninmeaaW.PrintWords
/-- One step of the first number, and of the second one. -/
def sx (x c : Int) : Int := (x * 1000003 + c + 1) % 2147483647
def sy (y c : Int) : Int := (y * 69069 + c + 1) % 2147483629
def fx (x : Int) (l : List UInt8) : Int := l.foldl (fun x c => sx x c.toNat) x
def fy (x : Int) (l : List UInt8) : Int := l.foldl (fun x c => sy x c.toNat) x
theorem fx_range (l : List UInt8) : ∀ x : Int, 0 ≤ x → x < 2147483647 → 0 ≤ fx x l ∧ fx x l < 2147483647 := by
  induction l with
  | nil => intro x h0 h1; exact ⟨h0, h1⟩
  | cons c l ih => intro x h0 h1; exact ih _ (by simp only [sx]; omega) (by simp only [sx]; omega)
theorem fy_range (l : List UInt8) : ∀ x : Int, 0 ≤ x → x < 2147483629 → 0 ≤ fy x l ∧ fy x l < 2147483629 := by
  induction l with
  | nil => intro x h0 h1; exact ⟨h0, h1⟩
  | cons c l ih => intro x h0 h1; exact ih _ (by simp only [sy]; omega) (by simp only [sy]; omega)
theorem take_snoc (s : ByteArray) (k : Nat) (h : k < s.size) : s.data.toList.take (k + 1) = s.data.toList.take k ++ [s[k]] := by
  rw [List.take_succ_eq_append_getElem (by simpa using h)]; rfl
theorem fx_snoc (s : ByteArray) (k : Nat) (h : k < s.size) (x : Int) : fx x (s.data.toList.take (k + 1)) = (fx x (s.data.toList.take k) * 1000003 + (s[k].toNat : Int) + 1) % 2147483647 := by
  rw [take_snoc s k h, fx, List.foldl_append]; rfl
theorem fy_snoc (s : ByteArray) (k : Nat) (h : k < s.size) (x : Int) : fy x (s.data.toList.take (k + 1)) = (fy x (s.data.toList.take k) * 69069 + (s[k].toNat : Int) + 1) % 2147483629 := by
  rw [take_snoc s k h, fy, List.foldl_append]; rfl
theorem stepx (x : Int) (c : UInt8) (h0 : 0 ≤ x) (h1 : x < 2147483647) : (wrap64 (wrap64 (x * 1000003 + wrap64 c.toNat) + 1)).tmod 2147483647 = (x * 1000003 + c.toNat + 1) % 2147483647 := by
  have hc := c.toNat_lt
  rw [show wrap64 (c.toNat : Int) = c.toNat from by unfold wrap64; omega, show wrap64 (x * 1000003 + c.toNat) = x * 1000003 + c.toNat from by unfold wrap64; omega, show wrap64 (x * 1000003 + (c.toNat : Int) + 1) = x * 1000003 + (c.toNat : Int) + 1 from by unfold wrap64; omega]
  rw [Int.tmod_eq_emod_of_nonneg (by omega)]
theorem stepy (x : Int) (c : UInt8) (h0 : 0 ≤ x) (h1 : x < 2147483629) : (wrap64 (wrap64 (x * 69069 + wrap64 c.toNat) + 1)).tmod 2147483629 = (x * 69069 + c.toNat + 1) % 2147483629 := by
  have hc := c.toNat_lt
  rw [show wrap64 (c.toNat : Int) = c.toNat from by unfold wrap64; omega, show wrap64 (x * 69069 + c.toNat) = x * 69069 + c.toNat from by unfold wrap64; omega, show wrap64 (x * 69069 + (c.toNat : Int) + 1) = x * 69069 + (c.toNat : Int) + 1 from by unfold wrap64; omega]
  rw [Int.tmod_eq_emod_of_nonneg (by omega)]
/-- What a store into one of two blocks of one cell leaves. -/
theorem other_cell {w : World} {b : Nat} {o : Obj} (h : w.heap[b]? = some o) {p : Addr} (hp : b ≠ p.block) (u : Value) : (w.setCell p u).heap[b]? = some o := (Below.heap_setCell w p u b hp).trans h
set_option maxHeartbeats 400000 in
theorem take_any (s : ByteArray) (hs : s.size ≤ 9223372036854775807) (X Y : Nat) (hXY : X ≠ Y) (x y : Int) (hx0 : 0 ≤ x) (hx : x < 2147483647) (hy0 : 0 ≤ y) (hy : y < 2147483629) (w : World)
    (cX : w.heap[X]? = some (.cells #[.int .i64 x] 3 (0, 0))) (cY : w.heap[Y]? = some (.cells #[.int .i64 y] 3 (0, 0))) :
    Calls Try.prog 36 #[.string s, .pointer (some ⟨X, 0, none⟩), .pointer (some ⟨Y, 0, none⟩)] w fun e w' => e = .returned (.tuple #[]) ∧
      w'.heap[X]? = some (.cells #[.int .i64 (fx x s.data.toList)] 3 (0, 0)) ∧ w'.heap[Y]? = some (.cells #[.int .i64 (fy y s.data.toList)] 3 (0, 0)) ∧ Kept w w' (fun k => k = X ∨ k = Y) ∧ Below (min X Y) w w' := by
  go_enter Try.func36, Try.ntmps36
  go_wp2
  have HX := Lib.hid cX
  have HY := Lib.hid cY
  clear cX cY
  go_loopw [7] (fun i wr => ∃ k : Nat, k ≤ s.size ∧ i = .int .i64 k ∧ wr.heap[X]? = some (.cells #[.int .i64 (fx x (s.data.toList.take k))] 3 (0, 0)) ∧ wr.heap[Y]? = some (.cells #[.int .i64 (fy y (s.data.toList.take k))] 3 (0, 0)) ∧ Kept w wr (fun k => k = X ∨ k = Y) ∧ Below (min X Y) w wr) (fun i _ => s.size - (intOf i).toNat)
  case atStart => exact ⟨0, Nat.zero_le _, rfl, HX.out, HY.out, Kept.refl _ _, Below.refl _ _⟩
  case round =>
    obtain ⟨k, hk, rfl, cX, cY, hK, hB⟩ := hrel
    by_cases hlt : k < s.size
    · obtain ⟨r1, r2⟩ := fx_range (s.data.toList.take k) x hx0 hx
      obtain ⟨r3, r4⟩ := fy_range (s.data.toList.take k) y hy0 hy
      have EX := Lib.hid (fx_snoc s k hlt x)
      have EY := Lib.hid (fy_snoc s k hlt y)
      generalize fx x (s.data.toList.take k) = xk at *
      generalize fy y (s.data.toList.take k) = yk at *
      have hxc : wr.cell? ⟨X, 0, none⟩ = some (.int .i64 xk) := cell_of_one cX
      have hyc : wr.cell? ⟨Y, 0, none⟩ = some (.int .i64 yk) := cell_of_one cY
      have hxf : wr.frozen? ⟨X, 0, none⟩ = false := free_of_one cX
      have hyf : wr.frozen? ⟨Y, 0, none⟩ = false := free_of_one cY
      have CX := Lib.hid cX
      have CY := Lib.hid cY
      clear cX cY
      go_wp2
      go_region
      all_goals (go_wp2; go_region)
      all_goals go_wp2
      all_goals
        go_roundw
        case rel =>
          refine ⟨k + 1, by omega, by go_num, ?_, ?_, ((hK.setCell (.inl (.inl rfl)) _).setCell (.inl (.inr rfl)) _).drew.drew, ((hB.setCell (p := ⟨X, 0, none⟩) (Nat.min_le_left _ _) _).setCell (p := ⟨Y, 0, none⟩) (Nat.min_le_right _ _) _).drew.drew⟩
          · rw [EX.out, ← stepx xk s[k] r1 r2]
            exact other_cell (one_setCell CX.out) (p := ⟨Y, 0, none⟩) hXY _
          · rw [EY.out, ← stepy yk s[k] r3 r4]
            exact one_setCell (other_cell CY.out (p := ⟨X, 0, none⟩) (Ne.symm hXY) _)
        case measure => simp [intOf]; omega
    · go_wp2
      go_end0
      obtain rfl : k = s.size := by omega
      exact ⟨rfl, by rw [List.take_of_length_le (by simp)] at cX; exact cX, by rw [List.take_of_length_le (by simp)] at cY; exact cY, hK, hB⟩
/-- One byte of a number, as put writes it. -/
def bb (n : Int) (p : Int) : Int := (n / p) % 256
theorem blk_cell {w : World} {D : Nat} {cs : Array Value} {T : TypeId} (h : w.heap[D]? = some (.cells cs T (0, 0))) (j : Nat) (hj : j < cs.size) : w.cell? ⟨D, j, none⟩ = some cs[j] ∧ w.frozen? ⟨D, j, none⟩ = false := by
  constructor
  · simp [World.cell?, h, hj]
  · simp [World.frozen?, h]
set_option maxHeartbeats 400000 in
theorem put_any (D o c : Nat) (_hc : 4 ≤ c) (n : Int) (w : World) (cs : Array Value) (T : TypeId)
    (hD : w.heap[D]? = some (.cells cs T (0, 0))) (ho : o + 4 ≤ cs.size) :
    Calls Try.prog 28 #[.slice (some ⟨D, o, none⟩) 4 c, .int .i64 n] w fun e w' => e = .returned (.tuple #[]) ∧
      w' = (((w.setCell ⟨D, o, none⟩ (.int .u8 (bb n 16777216))).setCell ⟨D, o + 1, none⟩ (.int .u8 (bb n 65536))).setCell ⟨D, o + 2, none⟩ (.int .u8 (bb n 256))).setCell ⟨D, o + 3, none⟩ (.int .u8 (bb n 1)) := by
  obtain ⟨c0, f0⟩ := blk_cell hD o (by omega)
  obtain ⟨c1, f1⟩ := blk_cell hD (o + 1) (by omega)
  obtain ⟨c2, f2⟩ := blk_cell hD (o + 2) (by omega)
  obtain ⟨c3, f3⟩ := blk_cell hD (o + 3) (by omega)
  generalize cs[o] = v0 at *
  generalize cs[o + 1] = v1 at *
  generalize cs[o + 2] = v2 at *
  generalize cs[o + 3] = v3 at *
  clear hD ho
  go_enter Try.func28, Try.ntmps28
  go_wp2
  refine wp_loop_rounds 5 ?_
  rw [rounds_succ]
  go_wp2
  rw [rounds_succ]
  go_wp2
  rw [rounds_succ]
  go_wp2
  rw [rounds_succ]
  go_wp2
  rw [rounds_succ]
  go_wp2
  go_end0
  exact ⟨rfl, by simp [bb]⟩
/-- What a store into a block leaves of it. -/
theorem set_blk {w : World} {D : Nat} {cs : Array Value} {T : TypeId} (h : w.heap[D]? = some (.cells cs T (0, 0))) (j : Nat) (u : Value) : (w.setCell ⟨D, j, none⟩ u).heap[D]? = some (.cells (cs.setIfInBounds j u) T (0, 0)) := by
  have hlt := lt_of_block h
  have h' : w.heap[D] = .cells cs T (0, 0) := by simpa [Array.getElem?_eq_getElem hlt] using h
  show (w.heap.modify D _)[D]? = _
  rw [Array.getElem?_eq_getElem (by simpa using hlt), Array.getElem_modify_self, h']
  rfl
/-- Only block D may be another one. -/
def Only (D : Nat) (w w' : World) : Prop := Kept w w' (fun k => k = D) ∧ Below D w w' ∧ w'.heap.size = w.heap.size
set_option maxHeartbeats 400000 in
theorem put_blk (D o c : Nat) (hc : 4 ≤ c) (n : Int) (w : World) (cs : Array Value) (T : TypeId)
    (hD : w.heap[D]? = some (.cells cs T (0, 0))) (ho : o + 4 ≤ cs.size) :
    Calls Try.prog 28 #[.slice (some ⟨D, o, none⟩) 4 c, .int .i64 n] w fun e w' => e = .returned (.tuple #[]) ∧
      w'.heap[D]? = some (.cells ((((cs.setIfInBounds o (.int .u8 (bb n 16777216))).setIfInBounds (o + 1) (.int .u8 (bb n 65536))).setIfInBounds (o + 2) (.int .u8 (bb n 256))).setIfInBounds (o + 3) (.int .u8 (bb n 1))) T (0, 0)) ∧ Only D w w' := by
  refine (put_any D o c hc n w cs T hD ho).mono ?_
  rintro e w' ⟨rfl, rfl⟩
  have e1 := set_blk hD o (.int .u8 (bb n 16777216))
  have e2 := set_blk e1 (o + 1) (.int .u8 (bb n 65536))
  have e3 := set_blk e2 (o + 2) (.int .u8 (bb n 256))
  have e4 := set_blk e3 (o + 3) (.int .u8 (bb n 1))
  have k1 := (Kept.refl w (fun k => k = D)).setCell (p := ⟨D, o, none⟩) (.inl rfl) (.int .u8 (bb n 16777216))
  have k2 := k1.setCell (p := ⟨D, o + 1, none⟩) (.inl rfl) (.int .u8 (bb n 65536))
  have k3 := k2.setCell (p := ⟨D, o + 2, none⟩) (.inl rfl) (.int .u8 (bb n 256))
  have k4 := k3.setCell (p := ⟨D, o + 3, none⟩) (.inl rfl) (.int .u8 (bb n 1))
  have l1 := (Below.refl D w).setCell (p := ⟨D, o, none⟩) (Nat.le_refl _) (.int .u8 (bb n 16777216))
  have l2 := l1.setCell (p := ⟨D, o + 1, none⟩) (Nat.le_refl _) (.int .u8 (bb n 65536))
  have l3 := l2.setCell (p := ⟨D, o + 2, none⟩) (Nat.le_refl _) (.int .u8 (bb n 256))
  have l4 := l3.setCell (p := ⟨D, o + 3, none⟩) (Nat.le_refl _) (.int .u8 (bb n 1))
  exact ⟨rfl, e4, k4, l4, by simp [World.setCell]⟩
theorem new2 (w : World) (o1 o2 : Obj) : ((w.alloc o1).alloc o2).heap[w.heap.size + 1]? = some o2 := by
  have h := heap_alloc_new (w.alloc o1) o2
  rwa [World.size_alloc] at h
theorem new1 (w : World) (o1 o2 : Obj) : ((w.alloc o1).alloc o2).heap[w.heap.size]? = some o1 := by
  rw [Below.heap_alloc _ _ _ (by simp)]
  exact heap_alloc_new _ _
end Go.Proofs.Ytgepeapfninmeaa.Dg
