/- The walk of WireBounds. -/
import Derived.Test.YtibdgpnedlpdbaaGwN
import Derived.Test.YtibdgpnedlpdbaaGwD
set_option linter.unusedVariables false
set_option linter.unusedSimpArgs false
namespace Go.Proofs.Ytibdgpnedlpdbaa.Gw
open Go.RowKit Go.Proofs.YtibdgpnedlpdbaaW.PrintWords Go.Proofs.Ytibdgpnedlpdbaa.Pb
theorem b1 : wire_Reader_Int.f 5 ⟨#[]⟩ false = some (0, ⟨#[]⟩, true) := by decide +kernel
theorem b2 : wire_Reader_Text.f 5 ⟨#[]⟩ false = some (⟨#[]⟩, ⟨#[]⟩, true) := by decide +kernel
theorem b3 : wire_Reader_Ints.f 5 ⟨#[]⟩ false = some ([], ⟨#[]⟩, true) := by decide +kernel
theorem b4 : wire_Reader_Texts.f 5 ⟨#[]⟩ false = some ([], ⟨#[]⟩, true) := by decide +kernel
theorem b5 : wire_Reader_Int.f 5 ⟨#[]⟩ true = some (0, ⟨#[]⟩, true) := by decide +kernel
theorem S_keep' {w0 W W' : World} {g g' : Nat} {s : ByteArray} {b : Bool} (h : IsS47 w0 W g s b) (hne : g ≠ g') (hk : KeepBut W W' g' none) : IsS47 w0 W' g s b :=
  ⟨(hk.2 g h.lt hne (by simp)).trans h.1, h.2⟩
/-- The row of readers, and those that were not asked yet. -/
def RowI (w : World) (L g1 g2 n : Nat) (W : World) : Prop := Below w.heap.size w W ∧ W.heap[L]? = some (.cells #[.pointer none, .pointer (some ⟨g1, 0, none⟩), .pointer (some ⟨g2, 0, none⟩)] 24 (0, 0)) ∧ L ≠ g1 ∧ L ≠ g2 ∧ g1 ≠ g2 ∧ (n ≤ 1 → IsS47 w W g1 ⟨#[]⟩ false) ∧ (n ≤ 2 → IsS47 w W g2 ⟨#[]⟩ false)
theorem RI.a {w0 w W : World} {g : Nat} {s : ByteArray} {b : Bool} (h : RI w0 w g s b W) : IsS47 w0 W g s b := h.1
theorem RI.d {w0 w W : World} {g : Nat} {s : ByteArray} {b : Bool} (h : RI w0 w g s b W) : Below w0.heap.size w0 W := h.2.1
theorem RowI.start {w w1 w2 : World} {g2 : Nat} (hb1 : Below w.heap.size w w1) (hi2 : IsS47 (w1.alloc (.cells #[.string ⟨#[]⟩, .bool false] 47)) w2 g2 ⟨#[]⟩ false) (hb : Below (w1.alloc (.cells #[.string ⟨#[]⟩, .bool false] 47)).heap.size (w1.alloc (.cells #[.string ⟨#[]⟩, .bool false] 47)) w2) :
    RowI w w2.heap.size w1.heap.size g2 0 (w2.alloc (.cells #[.pointer none, .pointer (some ⟨w1.heap.size, 0, none⟩), .pointer (some ⟨g2, 0, none⟩)] 24)) := by
  have hs1 := hb1.size
  have hs2 : w1.heap.size + 1 ≤ w2.heap.size := by have := hb.size; simpa using this
  have hg2 : w1.heap.size + 1 ≤ g2 := by have := hi2.2; simpa using this
  have hB2 : Below w.heap.size w w2 := (below_alloc hb1 _).trans (hb.mono (by simp; omega))
  refine ⟨below_alloc hB2 _, by simpa using heap_alloc_new w2 _, by omega, by have := hi2.lt; omega, by omega, fun _ => ?_, fun _ => ?_⟩
  · exact ((IsS47.new w w1 ⟨#[]⟩ false hb1).below hb).alloc _
  · exact IsS47.alloc ⟨hi2.1, by omega⟩ _
theorem RowI.nil {w wr w' : World} {L g1 g2 n : Nat} (h : RowI w L g1 g2 n wr) (hb : Below wr.heap.size wr w') : RowI w L g1 g2 (n + 1) w' := by
  obtain ⟨hB, hL, n1, n2, n3, h1, h2⟩ := h
  exact ⟨hB.trans (hb.mono hB.size), (hb.block _ (lt_of_block hL)).trans hL, n1, n2, n3, fun hn => (h1 (by omega)).below hb, fun hn => (h2 (by omega)).below hb⟩
theorem RowI.one {w wr w' : World} {L g1 g2 : Nat} {s : ByteArray} {b : Bool} (h : RowI w L g1 g2 1 wr) (hr : RI w wr g1 s b w') : RowI w L g1 g2 2 w' := by
  obtain ⟨hB, hL, n1, n2, n3, h1, h2⟩ := h
  exact ⟨hr.2.1, (hr.2.2.2 L (lt_of_block hL) n1 (by simp)).trans hL, n1, n2, n3, fun hn => absurd hn (by omega), fun _ => S_keep' (h2 (by omega)) (Ne.symm n3) hr.2.2⟩
theorem RowI.two {w wr w' : World} {L g1 g2 : Nat} {s : ByteArray} {b : Bool} (h : RowI w L g1 g2 2 wr) (hr : RI w wr g2 s b w') : RowI w L g1 g2 3 w' := by
  obtain ⟨hB, hL, n1, n2, n3, h1, h2⟩ := h
  exact ⟨hr.2.1, (hr.2.2.2 L (lt_of_block hL) n2 (by simp)).trans hL, n1, n2, n3, fun hn => absurd hn (by omega), fun hn => absurd hn (by omega)⟩
set_option maxHeartbeats 2000000 in
theorem bounds_0 (c : Int) (w : World) (h0 : 0 ≤ c) (h1 : c ≤ 255) (hv : c % 4 = 0) :
    Calls Try.prog 9 #[.int .u8 c] w fun e w' => e = .returned (.bool true) ∧ Below w.heap.size w w' := by
  have hv' : c.tmod 4 = 0 := by rw [Int.tmod_eq_emod_of_nonneg h0]; exact hv
  go_enter Try.func9, Try.ntmps9
  go_wp2_with (first
    | (go_at_call 10; with_reducible refine (abugidalaw02_sanity.calls 12 true _ Pure.sanity_ok).mono ?_; rintro e w1 ⟨rfl, hb1⟩)
    | (go_at_call 12; with_reducible refine (wire_New.calls ⟨#[]⟩ ⟨#[]⟩ false _ _ (Below.refl _ _) rfl).mono ?_; rintro e w2 ⟨g2, rfl, hi2, -, hbb2⟩))
  go_loopw [5] (fun i wr => ∃ n : Nat, n ≤ 3 ∧ i = .int .i64 n ∧ RowI w w2.heap.size w1.heap.size g2 n wr) (fun i _ => 3 - (intOf i).toNat)
  case atStart => exact ⟨0, by omega, rfl, RowI.start hb1 hi2 hbb2⟩
  case round =>
    obtain ⟨n, hn, rfl, hrow⟩ := hrel
    clear hi2 hbb2
    generalize w2.heap.size = L at *
    generalize w1.heap.size = g1 at *
    have c0 : wr.cell? ⟨L, 0, none⟩ = some (.pointer none) := by rw [Lib.cell_of_heap hrow.2.1]; rfl
    have c1 : wr.cell? ⟨L, 1, none⟩ = some (.pointer (some ⟨g1, 0, none⟩)) := by rw [Lib.cell_of_heap hrow.2.1]; rfl
    have c2 : wr.cell? ⟨L, 2, none⟩ = some (.pointer (some ⟨g2, 0, none⟩)) := by rw [Lib.cell_of_heap hrow.2.1]; rfl
    have HROW := Lib.hid hrow
    clear hrow
    obtain rfl | rfl | rfl | rfl : n = 0 ∨ n = 1 ∨ n = 2 ∨ n = 3 := by omega
    · have HX := Lib.hid (Below.refl wr.heap.size wr)
      go_wp2_with (first
        | (go_at_call 15; refine (Left_nil _).mono ?_; rintro e wx ⟨rfl, hbx⟩; have n_ := Lib.hid (HX.out.trans (hbx.mono HX.out.size)); clear HX hbx; have HX := n_; clear n_)
        | (go_at_call 16; refine (Bad_nil _).mono ?_; rintro e wx ⟨rfl, hbx⟩; have n_ := Lib.hid (HX.out.trans (hbx.mono HX.out.size)); clear HX hbx; have HX := n_; clear n_)
        | (go_at_call 13; refine (Int_nil _).mono ?_; rintro e wx ⟨rfl, hbx⟩; have n_ := Lib.hid (HX.out.trans (hbx.mono HX.out.size)); clear HX hbx; have HX := n_; clear n_))
      go_roundw
      case rel => exact ⟨1, by omega, by go_num, HROW.out.nil HX.out⟩
      case measure => simp [intOf]
    · have HS := Lib.hid (show RI w wr g1 ⟨#[]⟩ false wr from ⟨HROW.out.2.2.2.2.2.1 (by omega), HROW.out.1, KeepBut.refl _ _ _⟩)
      go_wp2_with (first
        | (go_at_call 15; (first | (with_reducible refine (wire_Reader_Left.calls g1 ⟨#[]⟩ false 0 ⟨#[]⟩ false w _ HS.out.a HS.out.d rfl).mono ?_; rintro e wx ⟨rfl, hi, hb, hk⟩; have n_ := Lib.hid (HS.out.step hi hb hk); clear HS hi hb hk; have HS := n_; clear n_) | (with_reducible refine (wire_Reader_Left.calls g1 ⟨#[]⟩ true 0 ⟨#[]⟩ true w _ HS.out.a HS.out.d rfl).mono ?_; rintro e wx ⟨rfl, hi, hb, hk⟩; have n_ := Lib.hid (HS.out.step hi hb hk); clear HS hi hb hk; have HS := n_; clear n_)))
        | (go_at_call 16; (first | (with_reducible refine (wire_Reader_Bad.calls g1 ⟨#[]⟩ false false ⟨#[]⟩ false w _ HS.out.a HS.out.d rfl).mono ?_; rintro e wx ⟨rfl, hi, hb, hk⟩; have n_ := Lib.hid (HS.out.step hi hb hk); clear HS hi hb hk; have HS := n_; clear n_) | (with_reducible refine (wire_Reader_Bad.calls g1 ⟨#[]⟩ true true ⟨#[]⟩ true w _ HS.out.a HS.out.d rfl).mono ?_; rintro e wx ⟨rfl, hi, hb, hk⟩; have n_ := Lib.hid (HS.out.step hi hb hk); clear HS hi hb hk; have HS := n_; clear n_)))
        | (go_at_call 13; (first | (with_reducible refine (wire_Reader_Int.calls 5 g1 ⟨#[]⟩ false 0 ⟨#[]⟩ true w _ HS.out.a HS.out.d b1).mono ?_; rintro e wx ⟨rfl, hi, hb, hk⟩; have n_ := Lib.hid (HS.out.step hi hb hk); clear HS hi hb hk; have HS := n_; clear n_) | (with_reducible refine (wire_Reader_Int.calls 5 g1 ⟨#[]⟩ true 0 ⟨#[]⟩ true w _ HS.out.a HS.out.d b5).mono ?_; rintro e wx ⟨rfl, hi, hb, hk⟩; have n_ := Lib.hid (HS.out.step hi hb hk); clear HS hi hb hk; have HS := n_; clear n_))))
      go_roundw
      case rel => exact ⟨2, by omega, by go_num, HROW.out.one HS.out⟩
      case measure => simp [intOf]
    · have HS := Lib.hid (show RI w wr g2 ⟨#[]⟩ false wr from ⟨HROW.out.2.2.2.2.2.2 (by omega), HROW.out.1, KeepBut.refl _ _ _⟩)
      go_wp2_with (first
        | (go_at_call 15; (first | (with_reducible refine (wire_Reader_Left.calls g2 ⟨#[]⟩ false 0 ⟨#[]⟩ false w _ HS.out.a HS.out.d rfl).mono ?_; rintro e wx ⟨rfl, hi, hb, hk⟩; have n_ := Lib.hid (HS.out.step hi hb hk); clear HS hi hb hk; have HS := n_; clear n_) | (with_reducible refine (wire_Reader_Left.calls g2 ⟨#[]⟩ true 0 ⟨#[]⟩ true w _ HS.out.a HS.out.d rfl).mono ?_; rintro e wx ⟨rfl, hi, hb, hk⟩; have n_ := Lib.hid (HS.out.step hi hb hk); clear HS hi hb hk; have HS := n_; clear n_)))
        | (go_at_call 16; (first | (with_reducible refine (wire_Reader_Bad.calls g2 ⟨#[]⟩ false false ⟨#[]⟩ false w _ HS.out.a HS.out.d rfl).mono ?_; rintro e wx ⟨rfl, hi, hb, hk⟩; have n_ := Lib.hid (HS.out.step hi hb hk); clear HS hi hb hk; have HS := n_; clear n_) | (with_reducible refine (wire_Reader_Bad.calls g2 ⟨#[]⟩ true true ⟨#[]⟩ true w _ HS.out.a HS.out.d rfl).mono ?_; rintro e wx ⟨rfl, hi, hb, hk⟩; have n_ := Lib.hid (HS.out.step hi hb hk); clear HS hi hb hk; have HS := n_; clear n_)))
        | (go_at_call 13; (first | (with_reducible refine (wire_Reader_Int.calls 5 g2 ⟨#[]⟩ false 0 ⟨#[]⟩ true w _ HS.out.a HS.out.d b1).mono ?_; rintro e wx ⟨rfl, hi, hb, hk⟩; have n_ := Lib.hid (HS.out.step hi hb hk); clear HS hi hb hk; have HS := n_; clear n_) | (with_reducible refine (wire_Reader_Int.calls 5 g2 ⟨#[]⟩ true 0 ⟨#[]⟩ true w _ HS.out.a HS.out.d b5).mono ?_; rintro e wx ⟨rfl, hi, hb, hk⟩; have n_ := Lib.hid (HS.out.step hi hb hk); clear HS hi hb hk; have HS := n_; clear n_))))
      go_roundw
      case rel => exact ⟨3, by omega, by go_num, HROW.out.two HS.out⟩
      case measure => simp [intOf]
    · go_wp2
      go_ret
      exact ⟨rfl, HROW.out.1⟩
set_option maxHeartbeats 2000000 in
theorem bounds_1 (c : Int) (w : World) (h0 : 0 ≤ c) (h1 : c ≤ 255) (hv : c % 4 = 1) :
    Calls Try.prog 9 #[.int .u8 c] w fun e w' => e = .returned (.bool true) ∧ Below w.heap.size w w' := by
  have hv' : c.tmod 4 = 1 := by rw [Int.tmod_eq_emod_of_nonneg h0]; exact hv
  go_enter Try.func9, Try.ntmps9
  go_wp2_with (first
    | (go_at_call 10; with_reducible refine (abugidalaw02_sanity.calls 12 true _ Pure.sanity_ok).mono ?_; rintro e w1 ⟨rfl, hb1⟩)
    | (go_at_call 12; with_reducible refine (wire_New.calls ⟨#[]⟩ ⟨#[]⟩ false _ _ (Below.refl _ _) rfl).mono ?_; rintro e w2 ⟨g2, rfl, hi2, -, hbb2⟩))
  go_loopw [5] (fun i wr => ∃ n : Nat, n ≤ 3 ∧ i = .int .i64 n ∧ RowI w w2.heap.size w1.heap.size g2 n wr) (fun i _ => 3 - (intOf i).toNat)
  case atStart => exact ⟨0, by omega, rfl, RowI.start hb1 hi2 hbb2⟩
  case round =>
    obtain ⟨n, hn, rfl, hrow⟩ := hrel
    clear hi2 hbb2
    generalize w2.heap.size = L at *
    generalize w1.heap.size = g1 at *
    have c0 : wr.cell? ⟨L, 0, none⟩ = some (.pointer none) := by rw [Lib.cell_of_heap hrow.2.1]; rfl
    have c1 : wr.cell? ⟨L, 1, none⟩ = some (.pointer (some ⟨g1, 0, none⟩)) := by rw [Lib.cell_of_heap hrow.2.1]; rfl
    have c2 : wr.cell? ⟨L, 2, none⟩ = some (.pointer (some ⟨g2, 0, none⟩)) := by rw [Lib.cell_of_heap hrow.2.1]; rfl
    have HROW := Lib.hid hrow
    clear hrow
    obtain rfl | rfl | rfl | rfl : n = 0 ∨ n = 1 ∨ n = 2 ∨ n = 3 := by omega
    · have HX := Lib.hid (Below.refl wr.heap.size wr)
      go_wp2_with (first
        | (go_at_call 15; refine (Left_nil _).mono ?_; rintro e wx ⟨rfl, hbx⟩; have n_ := Lib.hid (HX.out.trans (hbx.mono HX.out.size)); clear HX hbx; have HX := n_; clear n_)
        | (go_at_call 16; refine (Bad_nil _).mono ?_; rintro e wx ⟨rfl, hbx⟩; have n_ := Lib.hid (HX.out.trans (hbx.mono HX.out.size)); clear HX hbx; have HX := n_; clear n_)
        | (go_at_call 13; refine (Int_nil _).mono ?_; rintro e wx ⟨rfl, hbx⟩; have n_ := Lib.hid (HX.out.trans (hbx.mono HX.out.size)); clear HX hbx; have HX := n_; clear n_)
        | (go_at_call 26; refine (Text_nil _).mono ?_; rintro e wx ⟨rfl, hbx⟩; have n_ := Lib.hid (HX.out.trans (hbx.mono HX.out.size)); clear HX hbx; have HX := n_; clear n_))
      go_roundw
      case rel => exact ⟨1, by omega, by go_num, HROW.out.nil HX.out⟩
      case measure => simp [intOf]
    · have HS := Lib.hid (show RI w wr g1 ⟨#[]⟩ false wr from ⟨HROW.out.2.2.2.2.2.1 (by omega), HROW.out.1, KeepBut.refl _ _ _⟩)
      go_wp2_with (first
        | (go_at_call 15; (first | (with_reducible refine (wire_Reader_Left.calls g1 ⟨#[]⟩ false 0 ⟨#[]⟩ false w _ HS.out.a HS.out.d rfl).mono ?_; rintro e wx ⟨rfl, hi, hb, hk⟩; have n_ := Lib.hid (HS.out.step hi hb hk); clear HS hi hb hk; have HS := n_; clear n_) | (with_reducible refine (wire_Reader_Left.calls g1 ⟨#[]⟩ true 0 ⟨#[]⟩ true w _ HS.out.a HS.out.d rfl).mono ?_; rintro e wx ⟨rfl, hi, hb, hk⟩; have n_ := Lib.hid (HS.out.step hi hb hk); clear HS hi hb hk; have HS := n_; clear n_)))
        | (go_at_call 16; (first | (with_reducible refine (wire_Reader_Bad.calls g1 ⟨#[]⟩ false false ⟨#[]⟩ false w _ HS.out.a HS.out.d rfl).mono ?_; rintro e wx ⟨rfl, hi, hb, hk⟩; have n_ := Lib.hid (HS.out.step hi hb hk); clear HS hi hb hk; have HS := n_; clear n_) | (with_reducible refine (wire_Reader_Bad.calls g1 ⟨#[]⟩ true true ⟨#[]⟩ true w _ HS.out.a HS.out.d rfl).mono ?_; rintro e wx ⟨rfl, hi, hb, hk⟩; have n_ := Lib.hid (HS.out.step hi hb hk); clear HS hi hb hk; have HS := n_; clear n_)))
        | (go_at_call 13; (first | (with_reducible refine (wire_Reader_Int.calls 5 g1 ⟨#[]⟩ false 0 ⟨#[]⟩ true w _ HS.out.a HS.out.d b1).mono ?_; rintro e wx ⟨rfl, hi, hb, hk⟩; have n_ := Lib.hid (HS.out.step hi hb hk); clear HS hi hb hk; have HS := n_; clear n_) | (with_reducible refine (wire_Reader_Int.calls 5 g1 ⟨#[]⟩ true 0 ⟨#[]⟩ true w _ HS.out.a HS.out.d b5).mono ?_; rintro e wx ⟨rfl, hi, hb, hk⟩; have n_ := Lib.hid (HS.out.step hi hb hk); clear HS hi hb hk; have HS := n_; clear n_)))
        | (go_at_call 26; (first | (with_reducible refine (wire_Reader_Text.calls 5 g1 ⟨#[]⟩ false ⟨#[]⟩ ⟨#[]⟩ true w _ HS.out.a HS.out.d b2).mono ?_; rintro e wx ⟨rfl, hi, hb, hk⟩; have n_ := Lib.hid (HS.out.step hi hb hk); clear HS hi hb hk; have HS := n_; clear n_))))
      go_roundw
      case rel => exact ⟨2, by omega, by go_num, HROW.out.one HS.out⟩
      case measure => simp [intOf]
    · have HS := Lib.hid (show RI w wr g2 ⟨#[]⟩ false wr from ⟨HROW.out.2.2.2.2.2.2 (by omega), HROW.out.1, KeepBut.refl _ _ _⟩)
      go_wp2_with (first
        | (go_at_call 15; (first | (with_reducible refine (wire_Reader_Left.calls g2 ⟨#[]⟩ false 0 ⟨#[]⟩ false w _ HS.out.a HS.out.d rfl).mono ?_; rintro e wx ⟨rfl, hi, hb, hk⟩; have n_ := Lib.hid (HS.out.step hi hb hk); clear HS hi hb hk; have HS := n_; clear n_) | (with_reducible refine (wire_Reader_Left.calls g2 ⟨#[]⟩ true 0 ⟨#[]⟩ true w _ HS.out.a HS.out.d rfl).mono ?_; rintro e wx ⟨rfl, hi, hb, hk⟩; have n_ := Lib.hid (HS.out.step hi hb hk); clear HS hi hb hk; have HS := n_; clear n_)))
        | (go_at_call 16; (first | (with_reducible refine (wire_Reader_Bad.calls g2 ⟨#[]⟩ false false ⟨#[]⟩ false w _ HS.out.a HS.out.d rfl).mono ?_; rintro e wx ⟨rfl, hi, hb, hk⟩; have n_ := Lib.hid (HS.out.step hi hb hk); clear HS hi hb hk; have HS := n_; clear n_) | (with_reducible refine (wire_Reader_Bad.calls g2 ⟨#[]⟩ true true ⟨#[]⟩ true w _ HS.out.a HS.out.d rfl).mono ?_; rintro e wx ⟨rfl, hi, hb, hk⟩; have n_ := Lib.hid (HS.out.step hi hb hk); clear HS hi hb hk; have HS := n_; clear n_)))
        | (go_at_call 13; (first | (with_reducible refine (wire_Reader_Int.calls 5 g2 ⟨#[]⟩ false 0 ⟨#[]⟩ true w _ HS.out.a HS.out.d b1).mono ?_; rintro e wx ⟨rfl, hi, hb, hk⟩; have n_ := Lib.hid (HS.out.step hi hb hk); clear HS hi hb hk; have HS := n_; clear n_) | (with_reducible refine (wire_Reader_Int.calls 5 g2 ⟨#[]⟩ true 0 ⟨#[]⟩ true w _ HS.out.a HS.out.d b5).mono ?_; rintro e wx ⟨rfl, hi, hb, hk⟩; have n_ := Lib.hid (HS.out.step hi hb hk); clear HS hi hb hk; have HS := n_; clear n_)))
        | (go_at_call 26; (first | (with_reducible refine (wire_Reader_Text.calls 5 g2 ⟨#[]⟩ false ⟨#[]⟩ ⟨#[]⟩ true w _ HS.out.a HS.out.d b2).mono ?_; rintro e wx ⟨rfl, hi, hb, hk⟩; have n_ := Lib.hid (HS.out.step hi hb hk); clear HS hi hb hk; have HS := n_; clear n_))))
      go_roundw
      case rel => exact ⟨3, by omega, by go_num, HROW.out.two HS.out⟩
      case measure => simp [intOf]
    · go_wp2
      go_ret
      exact ⟨rfl, HROW.out.1⟩
set_option maxHeartbeats 2000000 in
theorem bounds_2 (c : Int) (w : World) (h0 : 0 ≤ c) (h1 : c ≤ 255) (hv : c % 4 = 2) :
    Calls Try.prog 9 #[.int .u8 c] w fun e w' => e = .returned (.bool true) ∧ Below w.heap.size w w' := by
  have hv' : c.tmod 4 = 2 := by rw [Int.tmod_eq_emod_of_nonneg h0]; exact hv
  go_enter Try.func9, Try.ntmps9
  go_wp2_with (first
    | (go_at_call 10; with_reducible refine (abugidalaw02_sanity.calls 12 true _ Pure.sanity_ok).mono ?_; rintro e w1 ⟨rfl, hb1⟩)
    | (go_at_call 12; with_reducible refine (wire_New.calls ⟨#[]⟩ ⟨#[]⟩ false _ _ (Below.refl _ _) rfl).mono ?_; rintro e w2 ⟨g2, rfl, hi2, -, hbb2⟩))
  go_loopw [5] (fun i wr => ∃ n : Nat, n ≤ 3 ∧ i = .int .i64 n ∧ RowI w w2.heap.size w1.heap.size g2 n wr) (fun i _ => 3 - (intOf i).toNat)
  case atStart => exact ⟨0, by omega, rfl, RowI.start hb1 hi2 hbb2⟩
  case round =>
    obtain ⟨n, hn, rfl, hrow⟩ := hrel
    clear hi2 hbb2
    generalize w2.heap.size = L at *
    generalize w1.heap.size = g1 at *
    have c0 : wr.cell? ⟨L, 0, none⟩ = some (.pointer none) := by rw [Lib.cell_of_heap hrow.2.1]; rfl
    have c1 : wr.cell? ⟨L, 1, none⟩ = some (.pointer (some ⟨g1, 0, none⟩)) := by rw [Lib.cell_of_heap hrow.2.1]; rfl
    have c2 : wr.cell? ⟨L, 2, none⟩ = some (.pointer (some ⟨g2, 0, none⟩)) := by rw [Lib.cell_of_heap hrow.2.1]; rfl
    have HROW := Lib.hid hrow
    clear hrow
    obtain rfl | rfl | rfl | rfl : n = 0 ∨ n = 1 ∨ n = 2 ∨ n = 3 := by omega
    · have HX := Lib.hid (Below.refl wr.heap.size wr)
      go_wp2_with (first
        | (go_at_call 15; refine (Left_nil _).mono ?_; rintro e wx ⟨rfl, hbx⟩; have n_ := Lib.hid (HX.out.trans (hbx.mono HX.out.size)); clear HX hbx; have HX := n_; clear n_)
        | (go_at_call 16; refine (Bad_nil _).mono ?_; rintro e wx ⟨rfl, hbx⟩; have n_ := Lib.hid (HX.out.trans (hbx.mono HX.out.size)); clear HX hbx; have HX := n_; clear n_)
        | (go_at_call 13; refine (Int_nil _).mono ?_; rintro e wx ⟨rfl, hbx⟩; have n_ := Lib.hid (HX.out.trans (hbx.mono HX.out.size)); clear HX hbx; have HX := n_; clear n_)
        | (go_at_call 29; refine (Ints_nil _).mono ?_; rintro e wx ⟨rfl, hbx⟩; have n_ := Lib.hid (HX.out.trans (hbx.mono HX.out.size)); clear HX hbx; have HX := n_; clear n_))
      go_roundw
      case rel => exact ⟨1, by omega, by go_num, HROW.out.nil HX.out⟩
      case measure => simp [intOf]
    · have HS := Lib.hid (show RI w wr g1 ⟨#[]⟩ false wr from ⟨HROW.out.2.2.2.2.2.1 (by omega), HROW.out.1, KeepBut.refl _ _ _⟩)
      go_wp2_with (first
        | (go_at_call 15; (first | (with_reducible refine (wire_Reader_Left.calls g1 ⟨#[]⟩ false 0 ⟨#[]⟩ false w _ HS.out.a HS.out.d rfl).mono ?_; rintro e wx ⟨rfl, hi, hb, hk⟩; have n_ := Lib.hid (HS.out.step hi hb hk); clear HS hi hb hk; have HS := n_; clear n_) | (with_reducible refine (wire_Reader_Left.calls g1 ⟨#[]⟩ true 0 ⟨#[]⟩ true w _ HS.out.a HS.out.d rfl).mono ?_; rintro e wx ⟨rfl, hi, hb, hk⟩; have n_ := Lib.hid (HS.out.step hi hb hk); clear HS hi hb hk; have HS := n_; clear n_)))
        | (go_at_call 16; (first | (with_reducible refine (wire_Reader_Bad.calls g1 ⟨#[]⟩ false false ⟨#[]⟩ false w _ HS.out.a HS.out.d rfl).mono ?_; rintro e wx ⟨rfl, hi, hb, hk⟩; have n_ := Lib.hid (HS.out.step hi hb hk); clear HS hi hb hk; have HS := n_; clear n_) | (with_reducible refine (wire_Reader_Bad.calls g1 ⟨#[]⟩ true true ⟨#[]⟩ true w _ HS.out.a HS.out.d rfl).mono ?_; rintro e wx ⟨rfl, hi, hb, hk⟩; have n_ := Lib.hid (HS.out.step hi hb hk); clear HS hi hb hk; have HS := n_; clear n_)))
        | (go_at_call 13; (first | (with_reducible refine (wire_Reader_Int.calls 5 g1 ⟨#[]⟩ false 0 ⟨#[]⟩ true w _ HS.out.a HS.out.d b1).mono ?_; rintro e wx ⟨rfl, hi, hb, hk⟩; have n_ := Lib.hid (HS.out.step hi hb hk); clear HS hi hb hk; have HS := n_; clear n_) | (with_reducible refine (wire_Reader_Int.calls 5 g1 ⟨#[]⟩ true 0 ⟨#[]⟩ true w _ HS.out.a HS.out.d b5).mono ?_; rintro e wx ⟨rfl, hi, hb, hk⟩; have n_ := Lib.hid (HS.out.step hi hb hk); clear HS hi hb hk; have HS := n_; clear n_)))
        | (go_at_call 29; (first | (with_reducible refine (wire_Reader_Ints.calls 5 g1 ⟨#[]⟩ false [] ⟨#[]⟩ true w _ HS.out.a HS.out.d b3).mono ?_; rintro e wx ⟨vx, rfl, hO, hi, hb, hk⟩; obtain ⟨Aoi, coi, eoi⟩ := Kd.R_slice hO; subst eoi; clear hO; have n_ := Lib.hid (HS.out.step hi hb hk); clear HS hi hb hk; have HS := n_; clear n_))))
      go_roundw
      case rel => exact ⟨2, by omega, by go_num, HROW.out.one HS.out⟩
      case measure => simp [intOf]
    · have HS := Lib.hid (show RI w wr g2 ⟨#[]⟩ false wr from ⟨HROW.out.2.2.2.2.2.2 (by omega), HROW.out.1, KeepBut.refl _ _ _⟩)
      go_wp2_with (first
        | (go_at_call 15; (first | (with_reducible refine (wire_Reader_Left.calls g2 ⟨#[]⟩ false 0 ⟨#[]⟩ false w _ HS.out.a HS.out.d rfl).mono ?_; rintro e wx ⟨rfl, hi, hb, hk⟩; have n_ := Lib.hid (HS.out.step hi hb hk); clear HS hi hb hk; have HS := n_; clear n_) | (with_reducible refine (wire_Reader_Left.calls g2 ⟨#[]⟩ true 0 ⟨#[]⟩ true w _ HS.out.a HS.out.d rfl).mono ?_; rintro e wx ⟨rfl, hi, hb, hk⟩; have n_ := Lib.hid (HS.out.step hi hb hk); clear HS hi hb hk; have HS := n_; clear n_)))
        | (go_at_call 16; (first | (with_reducible refine (wire_Reader_Bad.calls g2 ⟨#[]⟩ false false ⟨#[]⟩ false w _ HS.out.a HS.out.d rfl).mono ?_; rintro e wx ⟨rfl, hi, hb, hk⟩; have n_ := Lib.hid (HS.out.step hi hb hk); clear HS hi hb hk; have HS := n_; clear n_) | (with_reducible refine (wire_Reader_Bad.calls g2 ⟨#[]⟩ true true ⟨#[]⟩ true w _ HS.out.a HS.out.d rfl).mono ?_; rintro e wx ⟨rfl, hi, hb, hk⟩; have n_ := Lib.hid (HS.out.step hi hb hk); clear HS hi hb hk; have HS := n_; clear n_)))
        | (go_at_call 13; (first | (with_reducible refine (wire_Reader_Int.calls 5 g2 ⟨#[]⟩ false 0 ⟨#[]⟩ true w _ HS.out.a HS.out.d b1).mono ?_; rintro e wx ⟨rfl, hi, hb, hk⟩; have n_ := Lib.hid (HS.out.step hi hb hk); clear HS hi hb hk; have HS := n_; clear n_) | (with_reducible refine (wire_Reader_Int.calls 5 g2 ⟨#[]⟩ true 0 ⟨#[]⟩ true w _ HS.out.a HS.out.d b5).mono ?_; rintro e wx ⟨rfl, hi, hb, hk⟩; have n_ := Lib.hid (HS.out.step hi hb hk); clear HS hi hb hk; have HS := n_; clear n_)))
        | (go_at_call 29; (first | (with_reducible refine (wire_Reader_Ints.calls 5 g2 ⟨#[]⟩ false [] ⟨#[]⟩ true w _ HS.out.a HS.out.d b3).mono ?_; rintro e wx ⟨vx, rfl, hO, hi, hb, hk⟩; obtain ⟨Aoi, coi, eoi⟩ := Kd.R_slice hO; subst eoi; clear hO; have n_ := Lib.hid (HS.out.step hi hb hk); clear HS hi hb hk; have HS := n_; clear n_))))
      go_roundw
      case rel => exact ⟨3, by omega, by go_num, HROW.out.two HS.out⟩
      case measure => simp [intOf]
    · go_wp2
      go_ret
      exact ⟨rfl, HROW.out.1⟩
set_option maxHeartbeats 2000000 in
theorem bounds_3 (c : Int) (w : World) (h0 : 0 ≤ c) (h1 : c ≤ 255) (hv : c % 4 = 3) :
    Calls Try.prog 9 #[.int .u8 c] w fun e w' => e = .returned (.bool true) ∧ Below w.heap.size w w' := by
  have hv' : c.tmod 4 = 3 := by rw [Int.tmod_eq_emod_of_nonneg h0]; exact hv
  go_enter Try.func9, Try.ntmps9
  go_wp2_with (first
    | (go_at_call 10; with_reducible refine (abugidalaw02_sanity.calls 12 true _ Pure.sanity_ok).mono ?_; rintro e w1 ⟨rfl, hb1⟩)
    | (go_at_call 12; with_reducible refine (wire_New.calls ⟨#[]⟩ ⟨#[]⟩ false _ _ (Below.refl _ _) rfl).mono ?_; rintro e w2 ⟨g2, rfl, hi2, -, hbb2⟩))
  go_loopw [5] (fun i wr => ∃ n : Nat, n ≤ 3 ∧ i = .int .i64 n ∧ RowI w w2.heap.size w1.heap.size g2 n wr) (fun i _ => 3 - (intOf i).toNat)
  case atStart => exact ⟨0, by omega, rfl, RowI.start hb1 hi2 hbb2⟩
  case round =>
    obtain ⟨n, hn, rfl, hrow⟩ := hrel
    clear hi2 hbb2
    generalize w2.heap.size = L at *
    generalize w1.heap.size = g1 at *
    have c0 : wr.cell? ⟨L, 0, none⟩ = some (.pointer none) := by rw [Lib.cell_of_heap hrow.2.1]; rfl
    have c1 : wr.cell? ⟨L, 1, none⟩ = some (.pointer (some ⟨g1, 0, none⟩)) := by rw [Lib.cell_of_heap hrow.2.1]; rfl
    have c2 : wr.cell? ⟨L, 2, none⟩ = some (.pointer (some ⟨g2, 0, none⟩)) := by rw [Lib.cell_of_heap hrow.2.1]; rfl
    have HROW := Lib.hid hrow
    clear hrow
    obtain rfl | rfl | rfl | rfl : n = 0 ∨ n = 1 ∨ n = 2 ∨ n = 3 := by omega
    · have HX := Lib.hid (Below.refl wr.heap.size wr)
      go_wp2_with (first
        | (go_at_call 15; refine (Left_nil _).mono ?_; rintro e wx ⟨rfl, hbx⟩; have n_ := Lib.hid (HX.out.trans (hbx.mono HX.out.size)); clear HX hbx; have HX := n_; clear n_)
        | (go_at_call 16; refine (Bad_nil _).mono ?_; rintro e wx ⟨rfl, hbx⟩; have n_ := Lib.hid (HX.out.trans (hbx.mono HX.out.size)); clear HX hbx; have HX := n_; clear n_)
        | (go_at_call 13; refine (Int_nil _).mono ?_; rintro e wx ⟨rfl, hbx⟩; have n_ := Lib.hid (HX.out.trans (hbx.mono HX.out.size)); clear HX hbx; have HX := n_; clear n_)
        | (go_at_call 32; refine (Texts_nil _).mono ?_; rintro e wx ⟨rfl, hbx⟩; have n_ := Lib.hid (HX.out.trans (hbx.mono HX.out.size)); clear HX hbx; have HX := n_; clear n_))
      go_roundw
      case rel => exact ⟨1, by omega, by go_num, HROW.out.nil HX.out⟩
      case measure => simp [intOf]
    · have HS := Lib.hid (show RI w wr g1 ⟨#[]⟩ false wr from ⟨HROW.out.2.2.2.2.2.1 (by omega), HROW.out.1, KeepBut.refl _ _ _⟩)
      go_wp2_with (first
        | (go_at_call 15; (first | (with_reducible refine (wire_Reader_Left.calls g1 ⟨#[]⟩ false 0 ⟨#[]⟩ false w _ HS.out.a HS.out.d rfl).mono ?_; rintro e wx ⟨rfl, hi, hb, hk⟩; have n_ := Lib.hid (HS.out.step hi hb hk); clear HS hi hb hk; have HS := n_; clear n_) | (with_reducible refine (wire_Reader_Left.calls g1 ⟨#[]⟩ true 0 ⟨#[]⟩ true w _ HS.out.a HS.out.d rfl).mono ?_; rintro e wx ⟨rfl, hi, hb, hk⟩; have n_ := Lib.hid (HS.out.step hi hb hk); clear HS hi hb hk; have HS := n_; clear n_)))
        | (go_at_call 16; (first | (with_reducible refine (wire_Reader_Bad.calls g1 ⟨#[]⟩ false false ⟨#[]⟩ false w _ HS.out.a HS.out.d rfl).mono ?_; rintro e wx ⟨rfl, hi, hb, hk⟩; have n_ := Lib.hid (HS.out.step hi hb hk); clear HS hi hb hk; have HS := n_; clear n_) | (with_reducible refine (wire_Reader_Bad.calls g1 ⟨#[]⟩ true true ⟨#[]⟩ true w _ HS.out.a HS.out.d rfl).mono ?_; rintro e wx ⟨rfl, hi, hb, hk⟩; have n_ := Lib.hid (HS.out.step hi hb hk); clear HS hi hb hk; have HS := n_; clear n_)))
        | (go_at_call 13; (first | (with_reducible refine (wire_Reader_Int.calls 5 g1 ⟨#[]⟩ false 0 ⟨#[]⟩ true w _ HS.out.a HS.out.d b1).mono ?_; rintro e wx ⟨rfl, hi, hb, hk⟩; have n_ := Lib.hid (HS.out.step hi hb hk); clear HS hi hb hk; have HS := n_; clear n_) | (with_reducible refine (wire_Reader_Int.calls 5 g1 ⟨#[]⟩ true 0 ⟨#[]⟩ true w _ HS.out.a HS.out.d b5).mono ?_; rintro e wx ⟨rfl, hi, hb, hk⟩; have n_ := Lib.hid (HS.out.step hi hb hk); clear HS hi hb hk; have HS := n_; clear n_)))
        | (go_at_call 32; (first | (with_reducible refine (wire_Reader_Texts.calls 5 g1 ⟨#[]⟩ false [] ⟨#[]⟩ true w _ HS.out.a HS.out.d b4).mono ?_; rintro e wx ⟨vx, rfl, hO, hi, hb, hk⟩; obtain ⟨Aot, cot, eot⟩ := Kd.R_slice hO; subst eot; clear hO; have n_ := Lib.hid (HS.out.step hi hb hk); clear HS hi hb hk; have HS := n_; clear n_))))
      go_roundw
      case rel => exact ⟨2, by omega, by go_num, HROW.out.one HS.out⟩
      case measure => simp [intOf]
    · have HS := Lib.hid (show RI w wr g2 ⟨#[]⟩ false wr from ⟨HROW.out.2.2.2.2.2.2 (by omega), HROW.out.1, KeepBut.refl _ _ _⟩)
      go_wp2_with (first
        | (go_at_call 15; (first | (with_reducible refine (wire_Reader_Left.calls g2 ⟨#[]⟩ false 0 ⟨#[]⟩ false w _ HS.out.a HS.out.d rfl).mono ?_; rintro e wx ⟨rfl, hi, hb, hk⟩; have n_ := Lib.hid (HS.out.step hi hb hk); clear HS hi hb hk; have HS := n_; clear n_) | (with_reducible refine (wire_Reader_Left.calls g2 ⟨#[]⟩ true 0 ⟨#[]⟩ true w _ HS.out.a HS.out.d rfl).mono ?_; rintro e wx ⟨rfl, hi, hb, hk⟩; have n_ := Lib.hid (HS.out.step hi hb hk); clear HS hi hb hk; have HS := n_; clear n_)))
        | (go_at_call 16; (first | (with_reducible refine (wire_Reader_Bad.calls g2 ⟨#[]⟩ false false ⟨#[]⟩ false w _ HS.out.a HS.out.d rfl).mono ?_; rintro e wx ⟨rfl, hi, hb, hk⟩; have n_ := Lib.hid (HS.out.step hi hb hk); clear HS hi hb hk; have HS := n_; clear n_) | (with_reducible refine (wire_Reader_Bad.calls g2 ⟨#[]⟩ true true ⟨#[]⟩ true w _ HS.out.a HS.out.d rfl).mono ?_; rintro e wx ⟨rfl, hi, hb, hk⟩; have n_ := Lib.hid (HS.out.step hi hb hk); clear HS hi hb hk; have HS := n_; clear n_)))
        | (go_at_call 13; (first | (with_reducible refine (wire_Reader_Int.calls 5 g2 ⟨#[]⟩ false 0 ⟨#[]⟩ true w _ HS.out.a HS.out.d b1).mono ?_; rintro e wx ⟨rfl, hi, hb, hk⟩; have n_ := Lib.hid (HS.out.step hi hb hk); clear HS hi hb hk; have HS := n_; clear n_) | (with_reducible refine (wire_Reader_Int.calls 5 g2 ⟨#[]⟩ true 0 ⟨#[]⟩ true w _ HS.out.a HS.out.d b5).mono ?_; rintro e wx ⟨rfl, hi, hb, hk⟩; have n_ := Lib.hid (HS.out.step hi hb hk); clear HS hi hb hk; have HS := n_; clear n_)))
        | (go_at_call 32; (first | (with_reducible refine (wire_Reader_Texts.calls 5 g2 ⟨#[]⟩ false [] ⟨#[]⟩ true w _ HS.out.a HS.out.d b4).mono ?_; rintro e wx ⟨vx, rfl, hO, hi, hb, hk⟩; obtain ⟨Aot, cot, eot⟩ := Kd.R_slice hO; subst eot; clear hO; have n_ := Lib.hid (HS.out.step hi hb hk); clear HS hi hb hk; have HS := n_; clear n_))))
      go_roundw
      case rel => exact ⟨3, by omega, by go_num, HROW.out.two HS.out⟩
      case measure => simp [intOf]
    · go_wp2
      go_ret
      exact ⟨rfl, HROW.out.1⟩
theorem bounds_any (c : Int) (w : World) (h0 : 0 ≤ c) (h1 : c ≤ 255) : Calls Try.prog 9 #[.int .u8 c] w fun e w' => e = .returned (.bool true) ∧ Below w.heap.size w w' := by
  obtain h | h | h | h : c % 4 = 0 ∨ c % 4 = 1 ∨ c % 4 = 2 ∨ c % 4 = 3 := by omega
  · exact bounds_0 c w h0 h1 h
  · exact bounds_1 c w h0 h1 h
  · exact bounds_2 c w h0 h1 h
  · exact bounds_3 c w h0 h1 h
end Go.Proofs.Ytibdgpnedlpdbaa.Gw
