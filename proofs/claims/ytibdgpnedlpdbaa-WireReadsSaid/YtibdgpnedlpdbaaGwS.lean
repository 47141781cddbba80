/- The walk of WireShort, under the plain law. -/
import Derived.Test.YtibdgpnedlpdbaaPbx3
set_option linter.unusedVariables false
set_option linter.unusedSimpArgs false
namespace Go.Proofs.Ytibdgpnedlpdbaa.Gw
open Go.RowKit Go.Proofs.YtibdgpnedlpdbaaW.PrintWords Go.Proofs.YtibdgpnedlpdbaaW.PrintLast Go.Proofs.YtibdgpnedlpdbaaW.PrintMore Go.Proofs.Ytibdgpnedlpdbaa.Pb
attribute [local go_sem] max2_int min2_int max_two min_two
theorem ext_all (a : ByteArray) : a.extract 0 a.size = a := by
  apply ByteArray.ext
  rw [ByteArray.data_extract]
  exact Array.extract_size
set_option maxHeartbeats 800000 in
theorem short_walk_t (k : Nat) (a0 a1 : Int) (s t : ByteArray) (w : World) (hu : abugidalaw02_sanity.f k = some true) (hs : wire_Int.f k a0 = some s) (ht : wire_Int.f k a1 = some t)
    (b1 : ((s.size : Int) == 1) = (decide (-64 ≤ a0) && decide (a0 ≤ 63))) (h2 : s.size ≤ 10) (q : t.size < s.size) (h3 : 0 < t.size) 
    (h6 : ((s.extract 0 t.size).toList == (t.extract 0 t.size).toList) = (a0 == a1)) :
    Calls Try.prog 5 #[.int .i64 a0, .int .i64 a1] w fun e w' => e = .returned (.bool true) ∧ Below w.heap.size w w' := by
  have HU := Lib.hid hu
  have HS := Lib.hid hs
  have HT := Lib.hid ht
  have H6 := Lib.hid h6
  have c2 : decide (s.size ≤ 10) = true := decide_eq_true h2
  have c2' : decide ((s.size : Int) ≤ 10) = true := decide_eq_true (by omega)
  have c3 : decide (0 < t.size) = true := decide_eq_true h3
  have c3' : decide (0 < (t.size : Int)) = true := decide_eq_true (by omega)
  have d4 : ((t.size : Int) ≤ (s.size : Int)) = True := eq_true (by omega)
  have d5 : (t.size ≤ s.size) = True := eq_true (by omega)
  clear hu hs ht h2 h3 h6
  by_cases p1 : -64 ≤ a0
  · have e1 : decide (-64 ≤ a0) = true := decide_eq_true p1
    clear p1
    by_cases p2 : a0 ≤ 63
    · have e2 : decide (a0 ≤ 63) = true := decide_eq_true p2
      clear p2
      rw [e1, e2] at b1
      simp only [Bool.and_self] at b1
      go_enter Try.func5, Try.ntmps5
      go_wp2_with (first
        | (go_at_call 10; with_reducible refine (abugidalaw02_sanity.calls k true _ HU.out).mono ?_; rintro e w1 ⟨rfl, hb1⟩)
        | (go_at_call 11; (first | (with_reducible refine (wire_Int.calls k a0 s _ HS.out).mono ?_; rintro e w2 ⟨rfl, hb2⟩) | (with_reducible refine (wire_Int.calls k a1 t _ HT.out).mono ?_; rintro e w3 ⟨rfl, hb3⟩))))
      all_goals first | (exfalso; omega) | skip
      go_quiet (fail)
      go_wp2
      go_ret
      refine ⟨?_, pw_below_drewN ((hb1.trans (hb2.mono hb1.size)).trans (hb3.mono (hb1.trans (hb2.mono hb1.size)).size)) _⟩
      have e := H6.out
      rw [ext_all] at e
      rw [e]
      simp
    · have e2 : decide (a0 ≤ 63) = false := decide_eq_false p2
      clear p2
      rw [e1, e2] at b1
      simp only [Bool.and_false] at b1
      go_enter Try.func5, Try.ntmps5
      go_wp2_with (first
        | (go_at_call 10; with_reducible refine (abugidalaw02_sanity.calls k true _ HU.out).mono ?_; rintro e w1 ⟨rfl, hb1⟩)
        | (go_at_call 11; (first | (with_reducible refine (wire_Int.calls k a0 s _ HS.out).mono ?_; rintro e w2 ⟨rfl, hb2⟩) | (with_reducible refine (wire_Int.calls k a1 t _ HT.out).mono ?_; rintro e w3 ⟨rfl, hb3⟩))))
      all_goals first | (exfalso; omega) | skip
      go_quiet (fail)
      go_wp2
      go_ret
      refine ⟨?_, pw_below_drewN ((hb1.trans (hb2.mono hb1.size)).trans (hb3.mono (hb1.trans (hb2.mono hb1.size)).size)) _⟩
      have e := H6.out
      rw [ext_all] at e
      rw [e]
      simp
  · have e1 : decide (-64 ≤ a0) = false := decide_eq_false p1
    clear p1
    rw [e1] at b1
    simp only [Bool.false_and] at b1
    go_enter Try.func5, Try.ntmps5
    go_wp2_with (first
      | (go_at_call 10; with_reducible refine (abugidalaw02_sanity.calls k true _ HU.out).mono ?_; rintro e w1 ⟨rfl, hb1⟩)
      | (go_at_call 11; (first | (with_reducible refine (wire_Int.calls k a0 s _ HS.out).mono ?_; rintro e w2 ⟨rfl, hb2⟩) | (with_reducible refine (wire_Int.calls k a1 t _ HT.out).mono ?_; rintro e w3 ⟨rfl, hb3⟩))))
    all_goals first | (exfalso; omega) | skip
    go_quiet (fail)
    go_wp2
    go_ret
    refine ⟨?_, pw_below_drewN ((hb1.trans (hb2.mono hb1.size)).trans (hb3.mono (hb1.trans (hb2.mono hb1.size)).size)) _⟩
    have e := H6.out
    rw [ext_all] at e
    rw [e]
    simp
set_option maxHeartbeats 800000 in
theorem short_walk_s (k : Nat) (a0 a1 : Int) (s t : ByteArray) (w : World) (hu : abugidalaw02_sanity.f k = some true) (hs : wire_Int.f k a0 = some s) (ht : wire_Int.f k a1 = some t)
    (b1 : ((s.size : Int) == 1) = (decide (-64 ≤ a0) && decide (a0 ≤ 63))) (h2 : s.size ≤ 10) (q : ¬ t.size < s.size) (h3 : 0 < s.size) 
    (h6 : ((s.extract 0 s.size).toList == (t.extract 0 s.size).toList) = (a0 == a1)) :
    Calls Try.prog 5 #[.int .i64 a0, .int .i64 a1] w fun e w' => e = .returned (.bool true) ∧ Below w.heap.size w w' := by
  have HU := Lib.hid hu
  have HS := Lib.hid hs
  have HT := Lib.hid ht
  have H6 := Lib.hid h6
  have c2 : decide (s.size ≤ 10) = true := decide_eq_true h2
  have c2' : decide ((s.size : Int) ≤ 10) = true := decide_eq_true (by omega)
  have c3 : decide (0 < s.size) = true := decide_eq_true h3
  have c3' : decide (0 < (s.size : Int)) = true := decide_eq_true (by omega)
  have d4 : ((s.size : Int) ≤ (t.size : Int)) = True := eq_true (by omega)
  have d5 : (s.size ≤ t.size) = True := eq_true (by omega)
  clear hu hs ht h2 h3 h6
  by_cases p1 : -64 ≤ a0
  · have e1 : decide (-64 ≤ a0) = true := decide_eq_true p1
    clear p1
    by_cases p2 : a0 ≤ 63
    · have e2 : decide (a0 ≤ 63) = true := decide_eq_true p2
      clear p2
      rw [e1, e2] at b1
      simp only [Bool.and_self] at b1
      go_enter Try.func5, Try.ntmps5
      go_wp2_with (first
        | (go_at_call 10; with_reducible refine (abugidalaw02_sanity.calls k true _ HU.out).mono ?_; rintro e w1 ⟨rfl, hb1⟩)
        | (go_at_call 11; (first | (with_reducible refine (wire_Int.calls k a0 s _ HS.out).mono ?_; rintro e w2 ⟨rfl, hb2⟩) | (with_reducible refine (wire_Int.calls k a1 t _ HT.out).mono ?_; rintro e w3 ⟨rfl, hb3⟩))))
      all_goals first | (exfalso; omega) | skip
      go_quiet (fail)
      go_wp2
      go_ret
      refine ⟨?_, pw_below_drewN ((hb1.trans (hb2.mono hb1.size)).trans (hb3.mono (hb1.trans (hb2.mono hb1.size)).size)) _⟩
      have e := H6.out
      rw [ext_all] at e
      rw [e]
      simp
    · have e2 : decide (a0 ≤ 63) = false := decide_eq_false p2
      clear p2
      rw [e1, e2] at b1
      simp only [Bool.and_false] at b1
      go_enter Try.func5, Try.ntmps5
      go_wp2_with (first
        | (go_at_call 10; with_reducible refine (abugidalaw02_sanity.calls k true _ HU.out).mono ?_; rintro e w1 ⟨rfl, hb1⟩)
        | (go_at_call 11; (first | (with_reducible refine (wire_Int.calls k a0 s _ HS.out).mono ?_; rintro e w2 ⟨rfl, hb2⟩) | (with_reducible refine (wire_Int.calls k a1 t _ HT.out).mono ?_; rintro e w3 ⟨rfl, hb3⟩))))
      all_goals first | (exfalso; omega) | skip
      go_quiet (fail)
      go_wp2
      go_ret
      refine ⟨?_, pw_below_drewN ((hb1.trans (hb2.mono hb1.size)).trans (hb3.mono (hb1.trans (hb2.mono hb1.size)).size)) _⟩
      have e := H6.out
      rw [ext_all] at e
      rw [e]
      simp
  · have e1 : decide (-64 ≤ a0) = false := decide_eq_false p1
    clear p1
    rw [e1] at b1
    simp only [Bool.false_and] at b1
    go_enter Try.func5, Try.ntmps5
    go_wp2_with (first
      | (go_at_call 10; with_reducible refine (abugidalaw02_sanity.calls k true _ HU.out).mono ?_; rintro e w1 ⟨rfl, hb1⟩)
      | (go_at_call 11; (first | (with_reducible refine (wire_Int.calls k a0 s _ HS.out).mono ?_; rintro e w2 ⟨rfl, hb2⟩) | (with_reducible refine (wire_Int.calls k a1 t _ HT.out).mono ?_; rintro e w3 ⟨rfl, hb3⟩))))
    all_goals first | (exfalso; omega) | skip
    go_quiet (fail)
    go_wp2
    go_ret
    refine ⟨?_, pw_below_drewN ((hb1.trans (hb2.mono hb1.size)).trans (hb3.mono (hb1.trans (hb2.mono hb1.size)).size)) _⟩
    have e := H6.out
    rw [ext_all] at e
    rw [e]
    simp
end Go.Proofs.Ytibdgpnedlpdbaa.Gw
