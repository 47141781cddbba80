/- The walk of WireCut, under the plain law. -/
import Derived.Test.YtibdgpnedlpdbaaPbx5
set_option linter.unusedVariables false
set_option linter.unusedSimpArgs false
namespace Go.Proofs.Ytibdgpnedlpdbaa.Pb
open Go.RowKit Go.Proofs.YtibdgpnedlpdbaaW.PrintWords Go.Proofs.YtibdgpnedlpdbaaW.PrintLast Go.Proofs.YtibdgpnedlpdbaaW.PrintMore Go.Proofs.Ytibdgpnedlpdbaa.Gw
attribute [local go_sem] max2_int min2_int max_two min_two
/-- What must be so of the functions for WireCut to answer true. -/
structure CutFacts (k : Nat) (l0 : List Int) (l1 : List ByteArray) (a2 : Int) (j : Int) (lt : List Int) (s u : ByteArray) (t : List ByteArray) (m1 m2 : Int) (q1 q2 q3 q4 : ByteArray) : Prop where
  up : abugidalaw02_sanity.f k = some true
  hj : (if 50 < (l0.length : Int) then 50 else (l0.length : Int)) = j
  lt_ : lt = l0.take j.toNat
  hs : wire_Ints.f k lt = some s
  ht : abugidalaw02_short.f k l1 = some t
  hu : wire_Texts.f k t = some u
  s0 : 0 < s.size
  u0 : 0 < u.size
  h1 : (wrap64 a2).tmod (s.size : Int) = m1
  h2 : (wrap64 a2).tmod (u.size : Int) = m2
  b1 : 0 ≤ m1 ∧ m1 ≤ (s.size : Int)
  b2 : 0 ≤ m2 ∧ m2 ≤ (u.size : Int)
  r1 : wire_Reader_Ints.f k (s.extract 0 m1.toNat) false = some ([], q1, true)
  r2 : wire_Reader_Texts.f k (u.extract 0 m2.toNat) false = some ([], q2, true)
  r3 : wire_Reader_Int.f k q1 true = some (0, q3, true)
  r4 : wire_Reader_Text.f k q2 true = some (⟨#[]⟩, q4, true)
theorem S_keep {w0 W W' : World} {g g' : Nat} {s : ByteArray} {b : Bool} (h : IsS47 w0 W g s b) (hne : g ≠ g') (hk : KeepBut W W' g' none) : IsS47 w0 W' g s b :=
  ⟨(hk.2 g h.lt hne (by simp)).trans h.1, h.2⟩
/-- Two readers. -/
def Two (w : World) (g1 : Nat) (s1 : ByteArray) (b1 : Bool) (g2 : Nat) (s2 : ByteArray) (b2 : Bool) (W : World) : Prop := IsS47 w W g1 s1 b1 ∧ IsS47 w W g2 s2 b2 ∧ g1 ≠ g2 ∧ Below w.heap.size w W
theorem Two.a {w W : World} {g1 g2 : Nat} {s1 s2 : ByteArray} {b1 b2 : Bool} (h : Two w g1 s1 b1 g2 s2 b2 W) : IsS47 w W g1 s1 b1 := h.1
theorem Two.b {w W : World} {g1 g2 : Nat} {s1 s2 : ByteArray} {b1 b2 : Bool} (h : Two w g1 s1 b1 g2 s2 b2 W) : IsS47 w W g2 s2 b2 := h.2.1
theorem Two.d {w W : World} {g1 g2 : Nat} {s1 s2 : ByteArray} {b1 b2 : Bool} (h : Two w g1 s1 b1 g2 s2 b2 W) : Below w.heap.size w W := h.2.2.2
theorem Two.mk' {w w5 w6 : World} {g1 g2 : Nat} {s1 s2 : ByteArray} {b1 b2 : Bool} (h1 : IsS47 w w5 g1 s1 b1) (hB : Below w.heap.size w w5) (h2 : IsS47 w5 w6 g2 s2 b2) (hb : Below w5.heap.size w5 w6) : Two w g1 s1 b1 g2 s2 b2 w6 :=
  ⟨h1.below hb, ⟨h2.1, Nat.le_trans hB.size h2.2⟩, Nat.ne_of_lt (Nat.lt_of_lt_of_le h1.lt h2.2), hB.trans (hb.mono hB.size)⟩
theorem Two.one {w W W' : World} {g1 g2 : Nat} {s1 s2 s' : ByteArray} {b1 b2 b' : Bool} (h : Two w g1 s1 b1 g2 s2 b2 W) (h1 : IsS47 w W' g1 s' b') (hB : Below w.heap.size w W') (hk : KeepBut W W' g1 none) : Two w g1 s' b' g2 s2 b2 W' :=
  ⟨h1, S_keep h.2.1 (Ne.symm h.2.2.1) hk, h.2.2.1, hB⟩
theorem Two.two {w W W' : World} {g1 g2 : Nat} {s1 s2 s' : ByteArray} {b1 b2 b' : Bool} (h : Two w g1 s1 b1 g2 s2 b2 W) (h1 : IsS47 w W' g2 s' b') (hB : Below w.heap.size w W') (hk : KeepBut W W' g2 none) : Two w g1 s1 b1 g2 s' b' W' :=
  ⟨S_keep h.1 h.2.2.1 hk, h1, h.2.2.1, hB⟩
set_option maxHeartbeats 2000000 in
set_option maxRecDepth 100000 in
theorem cut_walk (k : Nat) (A0 : Option Addr) (c0 : Nat) (l0 : List Int) (A1 : Option Addr) (c1 : Nat) (l1 : List ByteArray) (a2 : Int) (w : World) (hr0 : Kd.C (Kd.int .i64) w A0 l0.length l0) (hc0 : l0.length ≤ c0) (hr1 : Kd.C Kd.string w A1 l1.length l1) (hc1 : l1.length ≤ c1)
    (j : Int) (lt : List Int) (s u : ByteArray) (t : List ByteArray) (m1 m2 : Int) (q1 q2 q3 q4 : ByteArray) (F : CutFacts k l0 l1 a2 j lt s u t m1 m2 q1 q2 q3 q4) :
    Calls Try.prog 8 #[.slice A0 l0.length c0, .slice A1 l1.length c1, .int .u16 a2] w fun e w' => e = .returned (.bool true) ∧ Below w.heap.size w w' := by
  have hji4_ := F.hj
  have hm1 := F.h1
  have hm2 := F.h2
  have x0 : (s.size == 0) = false := beq_eq_false_iff_ne.mpr (by have := F.s0; omega)
  have x0' : ((s.size : Int) == 0) = false := beq_eq_false_iff_ne.mpr (by have := F.s0; omega)
  have x1 : (u.size == 0) = false := beq_eq_false_iff_ne.mpr (by have := F.u0; omega)
  have x1' : ((u.size : Int) == 0) = false := beq_eq_false_iff_ne.mpr (by have := F.u0; omega)
  have x2 : ¬ (s.size = 0) := by have := F.s0; omega
  have x3 : ¬ (u.size = 0) := by have := F.u0; omega
  have x4 : (0 ≤ m1) = True := eq_true F.b1.1
  have x5 : (m1 ≤ (s.size : Int)) = True := eq_true F.b1.2
  have x6 : (0 ≤ m2) = True := eq_true F.b2.1
  have x7 : (m2 ≤ (u.size : Int)) = True := eq_true F.b2.2
  have hj0 : 0 ≤ j := by rw [← hji4_]; split <;> omega
  have hj1 : j ≤ (l0.length : Int) := by rw [← hji4_]; split <;> omega
  have c5b0 : (0 ≤ j) = True := eq_true hj0
  have c6b0 : (j ≤ (l0.length : Int)) = True := eq_true hj1
  have HB := Lib.hid (Below.refl w.heap.size w)
  have HR0 := Lib.hid hr0
  have HR1 := Lib.hid hr1
  have hlen : lt.length = j.toNat := by rw [F.lt_, List.length_take]; omega
  obtain ⟨i0, hi0, _, hsz0, _⟩ := info_parts info3
  obtain ⟨hcut, hA, hC⟩ := print_take_of (P := Try.prog) (Value.int .i64) 0 28 3 .i64 Try.underlying28 hi0 hsz0 A0 c0 l0 j hj0 hj1 hc0
  have HRt := Lib.hid (show Kd.C (Kd.int .i64) w A0 (l0.take j.toNat).length (l0.take j.toNat) from Kd.C_of_reads (d := (0 : Int)) (h1 := fun _ => rfl) (hA _ (Kd.reads_of_C hr0)))
  simp only [← F.lt_] at hcut HRt hC
  have HF := Lib.hid F
  have HLEN := Lib.hid hlen
  clear F hr0 hr1 hA hlen hi0 hsz0
  go_enter Try.func8, Try.ntmps8
  go_wp2_with (first
    | (go_at_call 10; with_reducible refine (abugidalaw02_sanity.calls k true _ HF.out.up).mono ?_; rintro e w1 ⟨rfl, hb1⟩; have HB1 := Lib.hid hb1; clear hb1)
    | (go_at_call 20; with_reducible refine (wire_Ints.calls k _ _ lt s _ ?n2 ?n3 HF.out.hs).mono ?_; (case n2 => exact Kd.C_below HRt.out HB1.out); (case n3 => exact hC); rintro e w2 ⟨rfl, hb2⟩; have HB2 := Lib.hid (HB1.out.trans (hb2.mono HB1.out.size)); clear hb2)
    | (go_at_call 17; with_reducible refine (abugidalaw02_short.calls k _ _ l1 t _ ?n1 ?n2 HF.out.ht).mono ?_; (case n1 => exact Kd.C_below HR1.out HB2.out); (case n2 => exact hc1); rintro e w3 ⟨v3, rfl, hO3, hb3⟩; obtain ⟨Ao, co, eo⟩ := Kd.R_slice hO3; subst eo; have HO3 := Lib.hid hO3; have HB3 := Lib.hid (HB2.out.trans (hb3.mono HB2.out.size)); clear hb3 hO3)
    | (go_at_call 22; with_reducible refine (wire_Texts.calls k _ _ t u _ ?n1 ?n2 HF.out.hu).mono ?_; (case n1 => exact (Kd.R_reads' HO3.out).2.2); (case n2 => exact (Kd.R_reads' HO3.out).2.1); rintro e w4 ⟨rfl, hb4⟩; have HB4 := Lib.hid (HB3.out.trans (hb4.mono HB3.out.size)); clear hb4)
    | (go_at_call 12; (first
      | (with_reducible refine (wire_New.calls (s.extract 0 m1.toNat) (s.extract 0 m1.toNat) false w _ HB4.out rfl).mono ?_; rintro e w5 ⟨g1, rfl, hi5, hb5, -⟩; have HI5 := Lib.hid hi5; have HB5 := Lib.hid hb5; clear hi5 hb5)
      | (with_reducible refine (wire_New.calls (u.extract 0 m2.toNat) (u.extract 0 m2.toNat) false w5 _ (Below.refl _ _) rfl).mono ?_; rintro e w6 ⟨g2, rfl, hi6, hb6, hbb6⟩; have HT6 := Lib.hid (Two.mk' HI5.out HB5.out hi6 hbb6); clear hi6 hb6 hbb6)))
    | (go_at_call 29; with_reducible refine (wire_Reader_Ints.calls k g1 _ false [] q1 true w _ HT6.out.a HT6.out.d HF.out.r1).mono ?_; rintro e w7 ⟨v7, rfl, hO7, hi7, hb7, hk7⟩; obtain ⟨Ao7, co7, eo7⟩ := Kd.R_slice hO7; subst eo7; have HT7 := Lib.hid (HT6.out.one hi7 hb7 hk7); clear hO7 hi7 hb7 hk7)
    | (go_at_call 32; with_reducible refine (wire_Reader_Texts.calls k g2 _ false [] q2 true w _ HT7.out.b HT7.out.d HF.out.r2).mono ?_; rintro e w8 ⟨v8, rfl, hO8, hi8, hb8, hk8⟩; obtain ⟨Ao8, co8, eo8⟩ := Kd.R_slice hO8; subst eo8; have HT8 := Lib.hid (HT7.out.two hi8 hb8 hk8); clear hO8 hi8 hb8 hk8)
    | (go_at_call 13; with_reducible refine (wire_Reader_Int.calls k g1 q1 true 0 q3 true w _ HTb.out.a HTb.out.d HF.out.r3).mono ?_; rintro e w11 ⟨rfl, hi11, hb11, hk11⟩; have HTc := Lib.hid (HTb.out.one hi11 hb11 hk11); clear hi11 hb11 hk11)
    | (go_at_call 26; with_reducible refine (wire_Reader_Text.calls k g2 q2 true ⟨#[]⟩ q4 true w _ HTc.out.b HTc.out.d HF.out.r4).mono ?_; rintro e w12 ⟨rfl, hi12, hb12, hk12⟩; have HTd := Lib.hid (HTc.out.two hi12 hb12 hk12); clear hi12 hb12 hk12)
    | (go_at_call 16; (first
      | (with_reducible refine (wire_Reader_Bad.calls g2 q2 true true q2 true w _ HTa.out.b HTa.out.d rfl).mono ?_; rintro e w10 ⟨rfl, hi10, hb10, hk10⟩; have HTb := Lib.hid (HTa.out.two hi10 hb10 hk10); clear hi10 hb10 hk10)
      | (with_reducible refine (wire_Reader_Bad.calls g1 q3 true true q3 true w _ HTf.out.a HTf.out.d rfl).mono ?_; rintro e w15 ⟨rfl, hi15, hb15, hk15⟩; have HTg := Lib.hid (HTf.out.one hi15 hb15 hk15); clear hi15 hb15 hk15)
      | (with_reducible refine (wire_Reader_Bad.calls g1 q1 true true q1 true w _ HT8.out.a HT8.out.d rfl).mono ?_; rintro e w9 ⟨rfl, hi9, hb9, hk9⟩; have HTa := Lib.hid (HT8.out.one hi9 hb9 hk9); clear hi9 hb9 hk9)))
    | (go_at_call 15; (first
      | (with_reducible refine (wire_Reader_Left.calls g2 q4 true 0 q4 true w _ HTe.out.b HTe.out.d rfl).mono ?_; rintro e w14 ⟨rfl, hi14, hb14, hk14⟩; have HTf := Lib.hid (HTe.out.two hi14 hb14 hk14); clear hi14 hb14 hk14)
      | (with_reducible refine (wire_Reader_Left.calls g1 q3 true 0 q3 true w _ HTd.out.a HTd.out.d rfl).mono ?_; rintro e w13 ⟨rfl, hi13, hb13, hk13⟩; have HTe := Lib.hid (HTd.out.one hi13 hb13 hk13); clear hi13 hb13 hk13))))
  go_ret
  exact ⟨rfl, HTg.out.d⟩
/-- That WireCut answers r = true, in words of the functions. -/
def CutOk (k : Nat) (l0 : List Int) (l1 : List ByteArray) (a2 : Int) (r : Bool) : Prop := r = true ∧ ∃ j lt s u t m1 m2 q1 q2 q3 q4, CutFacts k l0 l1 a2 j lt s u t m1 m2 q1 q2 q3 q4
theorem abugidalaw02_WireCut.calls (k : Nat) (A0 : Option Addr) (c0 : Nat) (l0 : List Int) (A1 : Option Addr) (c1 : Nat) (l1 : List ByteArray) (a2 : Int) (r : Bool) (w : World) (hr0 : Kd.C (Kd.int .i64) w A0 l0.length l0) (hc0 : l0.length ≤ c0) (hr1 : Kd.C Kd.string w A1 l1.length l1) (hc1 : l1.length ≤ c1) (h : CutOk k l0 l1 a2 r) :
    Calls Try.prog 8 #[.slice A0 l0.length c0, .slice A1 l1.length c1, .int .u16 a2] w fun e w' => e = .returned (.bool r) ∧ Below w.heap.size w w' := by
  obtain ⟨rfl, j, lt, s, u, t, m1, m2, q1, q2, q3, q4, F⟩ := h
  exact cut_walk k A0 c0 l0 A1 c1 l1 a2 w hr0 hc0 hr1 hc1 j lt s u t m1 m2 q1 q2 q3 q4 F
end Go.Proofs.Ytibdgpnedlpdbaa.Pb
