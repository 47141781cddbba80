/- digest.Verify. -/
import Derived.Test.YtgepeapfninmeaaDgQ
import Derived.Laws.BitsLemmas
set_option linter.unusedVariables false
set_option linter.unusedSimpArgs false
namespace Go.Proofs.Ytgepeapfninmeaa.Dg
open Go.RowKit Go.Proofs.YtgepeapfninmeaaW.PrintWords
def vstep (st : ByteArray × Int) (p : ByteArray) : ByteArray × Int := (if st.2 % 2 = 0 then PairB st.1 p else PairB p st.1, st.2 / 2)
def vf (leaf : ByteArray) (i : Int) (l : List ByteArray) : ByteArray × Int := l.foldl vstep (leaf, i)
set_option maxHeartbeats 400000 in
theorem Verify_no (root leaf : ByteArray) (i : Int) (A : Option Addr) (c : Nat) (l : List ByteArray) (w : World) (hl : l.length ≤ 9223372036854775807)
    (h : root.size ≠ 8 ∨ 20 < l.length ∨ i < 0 ∨ i / 2 ^ l.length ≠ 0) :
    Calls Try.prog 23 #[.string root, .string leaf, .int .i64 i, .slice A l.length c] w fun e w' => e = .returned (.bool false) ∧ w' = w := by
  by_cases h1 : root.size = 8
  · have b1 : ((root.size : Int) != 8) = false := by simp [h1]
    by_cases h2 : l.length ≤ 20
    · have b2 : decide ((20 : Int) < (l.length : Int)) = false := by simp; omega
      have b22 : decide (20 < l.length) = false := by simp; omega
      by_cases h3 : 0 ≤ i
      · have b3 : decide (i < 0) = false := by simp; omega
        have h4 : i / 2 ^ l.length ≠ 0 := by
          rcases h with h | h | h | h
          · exact absurd h1 h
          · omega
          · omega
          · exact h
        have b4 : (i / 2 ^ l.length != 0) = true := by simpa using h4
        go_enter Try.func23, Try.ntmps23
        go_wp2
        go_ret
        exact ⟨rfl, rfl⟩
      · have b3 : decide (i < 0) = true := by simp; omega
        clear h
        go_enter Try.func23, Try.ntmps23
        go_wp2
        go_ret
        exact ⟨rfl, rfl⟩
    · have b2 : decide ((20 : Int) < (l.length : Int)) = true := by simp; omega
      have b22 : decide (20 < l.length) = true := by simp; omega
      clear h
      go_enter Try.func23, Try.ntmps23
      go_wp2
      go_ret
      exact ⟨rfl, rfl⟩
  · have b1 : ((root.size : Int) != 8) = true := by simp; omega
    clear h
    go_enter Try.func23, Try.ntmps23
    go_wp2
    go_ret
    exact ⟨rfl, rfl⟩
theorem and1 (x : Int) (h0 : 0 ≤ x) (h1 : x ≤ 9223372036854775807) : bits .and .i64 x 1 = x % 2 := bits_mask .i64 63 (by decide) (fun n h0 h1 => by rw [IntKind.wrap_i64]; omega) 1 (by decide) x h0 (by omega)
theorem PairB_size (a b : ByteArray) : (PairB a b).size = 8 := by simp [PairB, OfB, dg, strOfNums_size]
theorem vf_snoc (leaf : ByteArray) (i : Int) (l : List ByteArray) (k : Nat) (s : ByteArray) (h : l[k]? = some s) : vf leaf i (l.take (k + 1)) = vstep (vf leaf i (l.take k)) s := by
  rw [List.take_add_one, h]; simp [vf]
theorem vf_nonneg (l : List ByteArray) : ∀ (leaf : ByteArray) (i : Int), 0 ≤ i → i ≤ 9223372036854775807 → leaf.size ≤ 9223372036854775807 → 0 ≤ (vf leaf i l).2 ∧ (vf leaf i l).2 ≤ 9223372036854775807 ∧ (vf leaf i l).1.size ≤ 9223372036854775807 := by
  induction l with
  | nil => intro leaf i h h1 h2; exact ⟨h, h1, h2⟩
  | cons p l ih =>
    intro leaf i h h1 h2
    have := ih (vstep (leaf, i) p).1 (vstep (leaf, i) p).2 (by simp only [vstep]; omega) (by simp only [vstep]; omega) (by simp only [vstep]; split <;> rw [PairB_size] <;> omega)
    exact this
theorem below_bytes {B : Nat} {w W : World} (h : Below B w W) (hB : B ≤ W.heap.size) (e : TypeId) (s : ByteArray) : Below B w (Lib.bytesWorld W e s) :=
  ⟨h.os, h.tape, h.output, Nat.le_trans h.size (by rw [Lib.bytesWorld_size]; omega), fun k hk => (Lib.bytesWorld_at_old W e s k (by omega)).trans (h.block k hk)⟩
theorem endA {w wr w2 : World} {e : TypeId} {s : ByteArray} (hB : Below w.heap.size w wr) (h2 : Below (Lib.bytesWorld wr.drew e s).heap.size (Lib.bytesWorld wr.drew e s) w2) : Below w.heap.size w w2 :=
  (below_bytes hB.drew hB.size e s).trans (h2.mono (by rw [Lib.bytesWorld_size]; have := hB.size; show _ ≤ wr.heap.size + 1; omega))
theorem endB {w wr w2 : World} {e : TypeId} {s : ByteArray} (hB : Below w.heap.size w wr) (h2 : Below wr.drew.heap.size wr.drew w2) : Below w.heap.size w (Lib.bytesWorld w2 e s) :=
  below_bytes (hB.drew.trans (h2.mono hB.size)) (Nat.le_trans hB.size h2.size) e s
/-- Byte j of a string. -/
def rb (root : ByteArray) (j : Nat) : Int := ((root.data.toList.getD j 0).toNat : Int)
theorem byt8 (W : World) (root : ByteArray) (h : root.size = 8) (n : Nat) (hn : n = W.heap.size) : ∀ W2 : World, Below (Lib.bytesWorld W 5 root).heap.size (Lib.bytesWorld W 5 root) W2 →
    W2.cell? ⟨n, 0, none⟩ = some (.int .u8 (rb root 0)) ∧ W2.cell? ⟨n, 1, none⟩ = some (.int .u8 (rb root 1)) ∧ W2.cell? ⟨n, 2, none⟩ = some (.int .u8 (rb root 2)) ∧ W2.cell? ⟨n, 3, none⟩ = some (.int .u8 (rb root 3)) ∧
    W2.cell? ⟨n, 4, none⟩ = some (.int .u8 (rb root 4)) ∧ W2.cell? ⟨n, 5, none⟩ = some (.int .u8 (rb root 5)) ∧ W2.cell? ⟨n, 6, none⟩ = some (.int .u8 (rb root 6)) ∧ W2.cell? ⟨n, 7, none⟩ = some (.int .u8 (rb root 7)) := by
  intro W2 hb
  subst hn
  have key : ∀ j, j < 8 → W2.cell? ⟨W.heap.size, j, none⟩ = some (.int .u8 (rb root j)) := fun j hj =>
    (hb.cell (p := ⟨W.heap.size, j, none⟩) (by show W.heap.size < _; rw [Lib.bytesWorld_size]; omega)).trans (Lib.bytesWorld_cell W 5 root j (by omega))
  exact ⟨key 0 (by omega), key 1 (by omega), key 2 (by omega), key 3 (by omega), key 4 (by omega), key 5 (by omega), key 6 (by omega), key 7 (by omega)⟩
theorem root8 (root : ByteArray) (h : root.size = 8) (x y : Int) : decide ([rb root 0, rb root 1, rb root 2, rb root 3, rb root 4, rb root 5, rb root 6, rb root 7] = [bb x 16777216, bb x 65536, bb x 256, bb x 1, bb y 16777216, bb y 65536, bb y 256, bb y 1]) = decide (root = dg x y) := by
  obtain ⟨⟨l⟩⟩ := root
  have hl : l.length = 8 := by simpa [ByteArray.size] using h
  match l, hl with
  | [c0, c1, c2, c3, c4, c5, c6, c7], _ =>
    have e : ∀ (c : UInt8) (n p : Int), ((c.toNat : Int) = bb n p) ↔ c = UInt8.ofNat (bb n p).toNat := by
      intro c n p
      have hc := c.toNat_lt
      have h0 : 0 ≤ bb n p ∧ bb n p < 256 := by unfold bb; omega
      constructor
      · intro h
        apply UInt8.toNat_inj.1
        rw [UInt8.toNat_ofNat']
        omega
      · intro h
        rw [h, UInt8.toNat_ofNat']
        omega
    simp [rb, dg, strOfNums, e]
set_option maxHeartbeats 800000 in
theorem Verify_yes (root leaf : ByteArray) (i : Int) (A : Option Addr) (c : Nat) (l : List ByteArray) (w : World) (hsr : root.size = 8) (hll : l.length ≤ 20) (h3 : 0 ≤ i) (h31 : i ≤ 9223372036854775807) (h4 : i / 2 ^ l.length = 0)
    (hlf : leaf.size ≤ 9223372036854775807) (hr : Kd.C Kd.string w A l.length l) (hs : ∀ s ∈ l, s.size ≤ 9223372036854775807) :
    Calls Try.prog 23 #[.string root, .string leaf, .int .i64 i, .slice A l.length c] w fun e w' => e = .returned (.bool (decide (root = RootB l.length (vf leaf i l).1))) ∧ Below w.heap.size w w' := by
  have b1 : ((root.size : Int) != 8) = false := by simp [hsr]
  have b2 : decide ((20 : Int) < (l.length : Int)) = false := by simp; omega
  have b22 : decide (20 < l.length) = false := by simp; omega
  have b3 : decide (i < 0) = false := by simp; omega
  have b4 : (i / 2 ^ l.length != 0) = false := by simpa using h4
  have HSR := Lib.hid hsr
  clear hsr h4
  go_enter Try.func23, Try.ntmps23
  go_wp2
  clear b1 b2 b22 b3 b4
  go_loopw [1, 2, 32] (fun lf iv kv wr => ∃ k : Nat, k ≤ l.length ∧ kv = .int .i64 k ∧ lf = .string (vf leaf i (l.take k)).1 ∧ iv = .int .i64 (vf leaf i (l.take k)).2 ∧ Below w.heap.size w wr) (fun _ _ kv _ => l.length - (intOf kv).toNat)
  case atStart => exact ⟨0, Nat.zero_le _, rfl, rfl, rfl, Below.refl _ _⟩
  case round =>
    obtain ⟨k, hk, rfl, rfl, rfl, hB⟩ := hrel
    obtain ⟨n0, n1, n2⟩ := vf_nonneg (l.take k) leaf i h3 h31 hlf
    by_cases hlt : k < l.length
    · obtain ⟨ad, rfl, hcell⟩ := Kd.at_string (Kd.C_below hr hB) (k : Int) (by omega) (by omega)
      have hget : l[k]? = some (rdOf ByteArray.empty l (k : Int)) := by simp [rdOf, List.getD_eq_getElem?_getD, List.getElem?_eq_getElem hlt]
      have hsz := hs _ (List.mem_of_getElem? hget)
      have EX := Lib.hid (vf_snoc leaf i l k _ hget)
      generalize rdOf ByteArray.empty l (k : Int) = s at *
      generalize vf leaf i (l.take k) = st at *
      obtain ⟨lf, iv⟩ := st
      simp only at n0 n1 n2
      rw [Int.toNat_natCast] at hcell
      have HR := Lib.hid hr
      clear hr hget hs
      have hand := and1 iv n0 n1
      by_cases hev : iv % 2 = 0
      · have t1 : (bits .and .i64 iv 1 == 0) = true := by rw [hand]; simpa using hev
        clear hand
        go_wp2_with (go_at_call 15; refine (Pair_any lf s n2 hsz _).mono ?_; rintro e w1 ⟨rfl, hB1⟩)
        go_roundw
        case rel =>
          refine ⟨k + 1, by omega, by go_num, ?_, ?_, hB.trans (hB1.mono hB.size)⟩
          · rw [EX.out]; simp [vstep, hev]
          · rw [EX.out]; rfl
        case measure => simp [intOf]; omega
      · have t1 : (bits .and .i64 iv 1 == 0) = false := by rw [hand]; simpa using hev
        clear hand
        go_wp2_with (go_at_call 15; refine (Pair_any s lf hsz n2 _).mono ?_; rintro e w1 ⟨rfl, hB1⟩)
        go_roundw
        case rel =>
          refine ⟨k + 1, by omega, by go_num, ?_, ?_, hB.trans (hB1.mono hB.size)⟩
          · rw [EX.out]; simp [vstep, hev]
          · rw [EX.out]; rfl
        case measure => simp [intOf]; omega
    · have ek : l.take k = l := List.take_of_length_le (by omega)
      rw [ek] at n0 n1 n2 ⊢
      generalize hst : vf leaf i l = st at *
      obtain ⟨lf, iv⟩ := st
      simp only at n0 n1 n2
      have HST := Lib.hid hst
      clear ek hst
      have hcv : ∀ W : World, (convert 9 40 (.string root)).run Try.prog W = .ok (.slice (some ⟨W.heap.size, 0, none⟩) 8 (grownCap W root.size 0 5)) (Lib.bytesWorld W 5 root) := by
        intro W
        have := Lib.run_convert_string_bytes (P := Try.prog) W _ _ 5 root Try.underlying9 Try.underlying40 Try.underlying5
        rw [HSR.out] at this
        rw [HSR.out]
        exact this
      have hq : ∀ W : World, (Op.equalIn 10000 46 (.agg #[.int .u8 (rb root 0), .int .u8 (rb root 1), .int .u8 (rb root 2), .int .u8 (rb root 3), .int .u8 (rb root 4), .int .u8 (rb root 5), .int .u8 (rb root 6), .int .u8 (rb root 7)]) (sumV (rx l.length lf) (ry l.length lf))).run Try.prog W = .ok (decide (root = RootB l.length lf)) W := by
        intro W
        rw [← root_eq, ← root8 root HSR.out]
        exact eq8 W _ _ _ _ _ _ _ _ _ _ _ _ _ _ _ _
      have hat : ∀ (W : World) (b c : Nat), (Instr.arrayAt 46 (.slice (some ⟨b, 0, none⟩) 8 c)).run Try.prog W = .ok (.pointer (some ⟨b, 0, none⟩)) W := by
        intro W b c
        simp [Instr.arrayAt, run_underlying Try.underlying46]
      have hgm : Try.prog.eqGuardType Try.prog.depth 46 = false := by kernel_rfl
      have hgd : ∀ (W : World) (xs ys : Array Value), (eqGuard .eql 46 (.tmp 51) (.tmp 55) (.agg xs) (.agg ys)).run Try.prog W = .ok () W := fun W xs ys => run_eqGuard_agg W .eql _ _ _ xs ys hgm
      unfold sumV at hq
      obtain ⟨e0, e1, e2, e3, e4, e5, e6, e7⟩ := byt8 wr.drew root HSR.out wr.heap.size rfl _ (Below.refl _ _)
      go_wp2
      go_region_with (go_at_call 31; refine (rooted_any l.length lf n2 _).mono ?_; rintro e w2 ⟨rfl, hB2⟩; unfold sumV; first | (have hq2 := byt8 wr.drew root HSR.out wr.heap.size rfl _ hB2; obtain ⟨x0, x1, x2, x3, x4, x5, x6, x7⟩ := hq2) | (have hq2 := byt8 w2 root HSR.out w2.heap.size rfl _ (Below.refl _ _); obtain ⟨x0, x1, x2, x3, x4, x5, x6, x7⟩ := hq2))
      all_goals go_wp2
      all_goals go_ret
      all_goals refine ⟨by rw [HST.out]; first | rfl | (simp; done), ?_⟩
      all_goals first
        | exact endA hB hB2
        | exact endB hB hB2
end Go.Proofs.Ytgepeapfninmeaa.Dg
