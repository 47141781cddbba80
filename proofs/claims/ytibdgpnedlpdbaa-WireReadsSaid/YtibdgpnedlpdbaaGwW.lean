/- The walk of WireReads. -/
import Derived.Test.YtibdgpnedlpdbaaGwV
import Derived.Test.YtibdgpnedlpdbaaGwS
import Derived.OpenShut
set_option linter.unusedVariables false
set_option linter.unusedSimpArgs false
namespace Go.Proofs.Ytibdgpnedlpdbaa.Pure
open Go.RowKit Go.Proofs.Ytibdgpnedlpdbaa.Pb Go.Proofs.YtibdgpnedlpdbaaW.PrintWords Go.Proofs.YtibdgpnedlpdbaaW.PrintLast Go.Proofs.YtibdgpnedlpdbaaW.PrintMore Go.Proofs.Ytibdgpnedlpdbaa.Gw
attribute [local go_sem] max2_int min2_int max_two min_two
def TwoR (w : World) (g1 : Nat) (q : ByteArray) (b : Bool) (g2 : Nat) (s : ByteArray) (i : Int) (b' : Bool) (W : World) : Prop := IsS47 w W g1 q b ∧ IsS56 w W g2 s i b' ∧ g1 ≠ g2 ∧ Below w.heap.size w W
theorem drawn0_below {W W' : World} (h : Drawn0 W W') : Below W.heap.size W W' := by
  obtain ⟨m, h⟩ := h
  rw [h]
  exact pw_below_drewN (Below.refl _ _) m
section
variable {w W W' : World} {g1 g2 : Nat} {q q' s s' : ByteArray} {u u' c c' : Bool} {i i' : Int}
theorem TwoR.a (h : TwoR w g1 q u g2 s i c W) : IsS47 w W g1 q u := h.1
theorem TwoR.b (h : TwoR w g1 q u g2 s i c W) : IsS56 w W g2 s i c := h.2.1
theorem TwoR.d (h : TwoR w g1 q u g2 s i c W) : Below w.heap.size w W := h.2.2.2
theorem TwoR.one (h : TwoR w g1 q u g2 s i c W) (h1 : IsS47 w W' g1 q' u') (hB : Below w.heap.size w W') (hk : KeepBut W W' g1 none) : TwoR w g1 q' u' g2 s i c W' :=
  ⟨h1, ⟨(hk.2 g2 h.2.1.lt (Ne.symm h.2.2.1) (by simp)).trans h.2.1.1, h.2.1.2⟩, h.2.2.1, hB⟩
theorem TwoR.two (h : TwoR w g1 q u g2 s i c W) (h2 : IsS56 w W' g2 s' i' c') (hB : Below w.heap.size w W') (hk : KeepBut W W' g2 none) : TwoR w g1 q u g2 s' i' c' W' :=
  ⟨⟨(hk.2 g1 h.1.lt h.2.2.1 (by simp)).trans h.1.1, h.1.2⟩, h2, h.2.2.1, hB⟩
theorem TwoR.below (h : TwoR w g1 q u g2 s i c W) (hb : Below W.heap.size W W') : TwoR w g1 q u g2 s i c W' :=
  ⟨h.1.below hb, h.2.1.below hb, h.2.2.1, h.2.2.2.trans (hb.mono h.2.2.2.size)⟩
theorem TwoR.mk' {w2 w3 : World} (h1 : IsS47 w w2 g1 q u) (hB : Below w.heap.size w w2) (h2 : IsS56 w2 w3 g2 s i c) (hb : Below w2.heap.size w2 w3) : TwoR w g1 q u g2 s i c w3 :=
  ⟨h1.below hb, ⟨h2.1, Nat.le_trans hB.size h2.2⟩, Nat.ne_of_lt (Nat.lt_of_lt_of_le h1.lt h2.2), hB.trans (hb.mono hB.size)⟩
theorem TwoR.drawn (h : TwoR w g1 q u g2 s i c W) (hb : Drawn0 W W') : TwoR w g1 q u g2 s i c W' := h.below (drawn0_below hb)
theorem R_past2 {α : Type} {d : Kd α} {e base : Nat} {v : Value} {xs : List α} (hI : IsS56 w W g2 s i c) (hO : d.R e W base (fun _ => True) v xs) (ht : ∀ q, q ∈ e :: d.E → q ≠ 56) (hK : KeepBut W W' g2 none) : d.R e W' base (fun _ => True) v xs :=
  Kd.R_mono (Kd.R_keep (hI.apart hO ht) hK (fun _ h => h.2)) (fun _ _ => trivial)
end
theorem Left_same (s : ByteArray) (hs : s.size ≤ 1000) (q : ByteArray) (b : Bool) (i : Int) (h : Sim q b s i b) : ∃ L : Int, wire_Reader_Left.f q b = some (L, q, b) ∧ abugidaref02_Reader_Left.f s i b = some (L, s, i, b) := by
  cases b with
  | true => exact ⟨0, rfl, rfl⟩
  | false =>
    obtain ⟨n, rfl, hn, rfl⟩ := h.2 rfl
    exact ⟨((s.size - n : Nat) : Int), by rw [← size_ext s n hn]; rfl, Left_ref s n hn (by omega)⟩
set_option maxHeartbeats 4000000 in
set_option maxRecDepth 100000 in
theorem reads_walk (a0 : ByteArray) (A1 : Option Addr) (c1 : Nat) (l1 : List Int) (w : World) (hr1 : Kd.C (Kd.int .u8) w A1 l1.length l1) (hc1 : l1.length ≤ c1) (hl1 : l1.length ≤ 9223372036854775807) (hw1 : ∀ n ∈ l1, 0 ≤ n ∧ n ≤ 255) :
    Calls Try.prog 6 #[.string a0, .slice A1 l1.length c1] w fun e w' => e = .returned (.bool true) ∧ Below w.heap.size w w' := by
  have HR1 := Lib.hid hr1
  have HW1 := Lib.hid hw1
  clear hr1 hw1
  obtain ⟨k0, hk0⟩ := Ev.rounds (g := fun k => abugidalaw02_sanity.f k) sanity_ev
  have H0 := Lib.hid hk0
  obtain ⟨j, hj⟩ : ∃ j : Int, (if (200 : Int) < (a0.size : Int) then 200 else (a0.size : Int)) = j := ⟨_, rfl⟩
  have b0 : (0 ≤ j) = True := eq_true (by rw [← hj]; split <;> omega)
  have b1 : (j ≤ (a0.size : Int)) = True := eq_true (by rw [← hj]; split <;> omega)
  have hs : (a0.extract 0 j.toNat).size ≤ 1000 := by simp only [ByteArray.size_extract]; rw [← hj]; split <;> omega
  obtain ⟨s, hss⟩ : ∃ s, s = a0.extract 0 j.toNat := ⟨_, rfl⟩
  rw [← hss] at hs
  have HS := Lib.hid hs
  have HSS := Lib.hid hss
  clear hk0 hs hss
  go_enter Try.func6, Try.ntmps6
  go_wp2_with (first
    | (go_at_call 10; with_reducible refine (abugidalaw02_sanity.calls k0 true _ H0.out).mono ?_; rintro e w1 ⟨rfl, hb1⟩; have HB1 := Lib.hid hb1; clear hb1)
    | (go_at_call 12; rw [← HSS.out]; with_reducible refine (wire_New.calls s s false w _ HB1.out rfl).mono ?_; rintro e w2 ⟨g1, rfl, hi2, hb2, -⟩; have HI2 := Lib.hid hi2; have HB2 := Lib.hid hb2; clear hi2 hb2)
    | (go_at_call 24; with_reducible refine (abugidaref02_New.calls s s 0 false w2 _ (Below.refl _ _) rfl).mono ?_; rintro e w3 ⟨g2, rfl, hi3, hb3, hbb3⟩; have HT := Lib.hid (TwoR.mk' HI2.out HB2.out hi3 hbb3); clear hi3 hb3 hbb3))
  clear b0 b1 hj
  go_loopw [8] (fun v wr => ∃ (n : Nat) (q : ByteArray) (b : Bool) (i : Int), v = .int .i64 n ∧ n ≤ l1.length ∧ TwoR w g1 q b g2 s i b wr ∧ Sim q b s i b) (fun v _ => l1.length - (intOf v).toNat)
  case atStart => exact ⟨0, s, false, 0, rfl, Nat.zero_le _, HT.out, rfl, fun _ => ⟨0, rfl, Nat.zero_le _, (ext_all s).symm⟩⟩
  case round =>
    clear HT
    obtain ⟨n, q, b, i, rfl, hn, hT, hsim⟩ := hrel
    have HT := Lib.hid hT
    have HSIM := Lib.hid hsim
    clear hT hsim
    by_cases hlt : n < l1.length
    · by_cases h20 : n < 20
      · have hx1 : decide ((n : Int) < (l1.length : Int)) = true := decide_eq_true (by omega)
        have hx2 : decide ((n : Int) < 20) = true := decide_eq_true (by omega)
        obtain ⟨ad1, eA1, _⟩ := HR1.out.2.2 (by omega)
        subst eA1
        obtain ⟨c, hc⟩ : ∃ c, c = rd l1 (n : Int) := ⟨_, rfl⟩
        have q5 : wr.cell? (ad1.add n) = some (.int .u8 c) := by
          have := Kd.foot_int (Kd.C_below HR1.out HT.out.d) (n : Int) (by omega) (by omega)
          rw [← hc] at this
          simpa using this
        have r5 : (0 ≤ (n : Int)) = True := eq_true (by omega)
        have r6 : ((n : Int) < (l1.length : Int)) = True := eq_true (by omega)
        have hcr : 0 ≤ c ∧ c ≤ 255 := by
          obtain ⟨x, hx⟩ := get_some (l := l1) (i := n) hlt
          rw [hc, rdi_some hx]
          exact HW1.out x (List.mem_of_getElem? hx)
        obtain ⟨r, hr⟩ : ∃ r, c.tmod 4 = r := ⟨_, rfl⟩
        have hr4 : r = 0 ∨ r = 1 ∨ r = 2 ∨ r = 3 := by rw [Int.tmod_eq_emod_of_nonneg hcr.1] at hr; omega
        clear hc hcr
        rcases hr4 with rfl | rfl | rfl | rfl
        · obtain ⟨x, q2, i2, b2, hp, hr2, hs2, _⟩ := Int_same s HS.out q b i HSIM.out
          obtain ⟨LV, hl1, hl2⟩ := Left_same s HS.out q2 b2 i2 hs2
          obtain ⟨k1, hp⟩ := Ev.rounds hp
          obtain ⟨k2, hr2⟩ := Ev.rounds hr2
          have HP := Lib.hid hp
          have HR := Lib.hid hr2
          have HS2 := Lib.hid hs2
          have HL1 := Lib.hid hl1
          have HL2 := Lib.hid hl2
          clear hp hr2 hs2 hl1 hl2
          go_wp2_with (first
            | (go_at_call 13; with_reducible refine (wire_Reader_Int.calls k1 g1 q b x q2 b2 w _ HT.out.a HT.out.d HP.out).mono ?_; rintro e wx ⟨rfl, hi, hb, hk⟩; have n_ := Lib.hid (HT.out.one hi hb hk); clear HT hi hb hk; have HT := n_; clear n_)
            | (go_at_call 25; with_reducible refine (abugidaref02_Reader_Int.calls k2 g2 s i b x s i2 b2 w _ HT.out.b HT.out.d HR.out).mono ?_; rintro e wx ⟨rfl, hi, hb, hk⟩; have n_ := Lib.hid (HT.out.two hi hb hk); clear HT hi hb hk; have HT := n_; clear n_)
            | (go_at_call 15; with_reducible refine (wire_Reader_Left.calls g1 q2 b2 LV q2 b2 w _ HT.out.a HT.out.d HL1.out).mono ?_; rintro e wx ⟨rfl, hi, hb, hk⟩; have n_ := Lib.hid (HT.out.one hi hb hk); clear HT hi hb hk; have HT := n_; clear n_)
            | (go_at_call 34; with_reducible refine (abugidaref02_Reader_Left.calls g2 s i2 b2 LV s i2 b2 w _ HT.out.b HT.out.d HL2.out).mono ?_; rintro e wx ⟨rfl, hi, hb, hk⟩; have n_ := Lib.hid (HT.out.two hi hb hk); clear HT hi hb hk; have HT := n_; clear n_)
            | (go_at_call 16; with_reducible refine (wire_Reader_Bad.calls g1 q2 b2 b2 q2 b2 w _ HT.out.a HT.out.d rfl).mono ?_; rintro e wx ⟨rfl, hi, hb, hk⟩; have n_ := Lib.hid (HT.out.one hi hb hk); clear HT hi hb hk; have HT := n_; clear n_)
            | (go_at_call 35; with_reducible refine (abugidaref02_Reader_Bad.calls g2 s i2 b2 b2 s i2 b2 w _ HT.out.b HT.out.d rfl).mono ?_; rintro e wx ⟨rfl, hi, hb, hk⟩; have n_ := Lib.hid (HT.out.two hi hb hk); clear HT hi hb hk; have HT := n_; clear n_))
          go_roundw
          case rel => exact ⟨n + 1, q2, b2, i2, by go_num, by omega, HT.out, HS2.out⟩
          case measure => first | omega | (simp [intOf]; omega)
        · obtain ⟨x, q2, i2, b2, hp, hr2, hs2⟩ := Text_same s HS.out q b i HSIM.out
          obtain ⟨LV, hl1, hl2⟩ := Left_same s HS.out q2 b2 i2 hs2
          obtain ⟨k1, hp⟩ := Ev.rounds hp
          obtain ⟨k2, hr2⟩ := Ev.rounds hr2
          have HP := Lib.hid hp
          have HR := Lib.hid hr2
          have HS2 := Lib.hid hs2
          have HL1 := Lib.hid hl1
          have HL2 := Lib.hid hl2
          clear hp hr2 hs2 hl1 hl2
          go_wp2_with (first
            | (go_at_call 26; with_reducible refine (wire_Reader_Text.calls k1 g1 q b x q2 b2 w _ HT.out.a HT.out.d HP.out).mono ?_; rintro e wx ⟨rfl, hi, hb, hk⟩; have n_ := Lib.hid (HT.out.one hi hb hk); clear HT hi hb hk; have HT := n_; clear n_)
            | (go_at_call 27; with_reducible refine (abugidaref02_Reader_Text.calls k2 g2 s i b x s i2 b2 w _ HT.out.b HT.out.d HR.out).mono ?_; rintro e wx ⟨rfl, hi, hb, hk⟩; have n_ := Lib.hid (HT.out.two hi hb hk); clear HT hi hb hk; have HT := n_; clear n_)
            | (go_at_call 15; with_reducible refine (wire_Reader_Left.calls g1 q2 b2 LV q2 b2 w _ HT.out.a HT.out.d HL1.out).mono ?_; rintro e wx ⟨rfl, hi, hb, hk⟩; have n_ := Lib.hid (HT.out.one hi hb hk); clear HT hi hb hk; have HT := n_; clear n_)
            | (go_at_call 34; with_reducible refine (abugidaref02_Reader_Left.calls g2 s i2 b2 LV s i2 b2 w _ HT.out.b HT.out.d HL2.out).mono ?_; rintro e wx ⟨rfl, hi, hb, hk⟩; have n_ := Lib.hid (HT.out.two hi hb hk); clear HT hi hb hk; have HT := n_; clear n_)
            | (go_at_call 16; with_reducible refine (wire_Reader_Bad.calls g1 q2 b2 b2 q2 b2 w _ HT.out.a HT.out.d rfl).mono ?_; rintro e wx ⟨rfl, hi, hb, hk⟩; have n_ := Lib.hid (HT.out.one hi hb hk); clear HT hi hb hk; have HT := n_; clear n_)
            | (go_at_call 35; with_reducible refine (abugidaref02_Reader_Bad.calls g2 s i2 b2 b2 s i2 b2 w _ HT.out.b HT.out.d rfl).mono ?_; rintro e wx ⟨rfl, hi, hb, hk⟩; have n_ := Lib.hid (HT.out.two hi hb hk); clear HT hi hb hk; have HT := n_; clear n_))
          go_roundw
          case rel => exact ⟨n + 1, q2, b2, i2, by go_num, by omega, HT.out, HS2.out⟩
          case measure => first | omega | (simp [intOf]; omega)
        · obtain ⟨x, q2, i2, b2, hp, hr2, hs2, hlen⟩ := Ints_same s HS.out q b i HSIM.out
          obtain ⟨LV, hl1, hl2⟩ := Left_same s HS.out q2 b2 i2 hs2
          obtain ⟨k1, hp⟩ := Ev.rounds hp
          obtain ⟨k2, hr2⟩ := Ev.rounds hr2
          obtain ⟨k3, hs3⟩ := Ev.rounds (SameInts_ev x hlen)
          have HS3 := Lib.hid hs3
          clear hs3 hlen
          have HP := Lib.hid hp
          have HR := Lib.hid hr2
          have HS2 := Lib.hid hs2
          have HL1 := Lib.hid hl1
          have HL2 := Lib.hid hl2
          clear hp hr2 hs2 hl1 hl2
          go_wp2_with (first
            | (go_at_call 29; with_reducible refine (wire_Reader_Ints.calls k1 g1 q b x q2 b2 w _ HT.out.a HT.out.d HP.out).mono ?_; rintro e wx ⟨v5, rfl, hO, hi, hb, hk⟩; have n_ := Lib.hid (HT.out.one hi hb hk); obtain ⟨A5, c5, rfl⟩ := Kd.R_slice hO; have HO := Lib.hid hO; clear HT hi hb hk hO; have HT := n_; clear n_)
            | (go_at_call 30; with_reducible refine (abugidaref02_Reader_Ints.calls k2 g2 s i b x s i2 b2 w _ HT.out.b HT.out.d HR.out).mono ?_; rintro e wx ⟨v6, rfl, hO2, hi, hb, hk⟩; have n_ := Lib.hid (HT.out.two hi hb hk); have n2_ := Lib.hid (R_past2 HT.out.b HO.out (by decide) hk); obtain ⟨A6, c6, rfl⟩ := Kd.R_slice hO2; have HO2 := Lib.hid hO2; clear HT hi hb hk hO2 HO; have HT := n_; have HO := n2_; clear n_ n2_)
            | (go_at_call 28; with_reducible refine (abugidaref02_SameInts.calls k3 _ _ x _ _ x true _ ?m1 ?m2 ?m3 ?m4 HS3.out).mono ?_; (case m1 => exact (Kd.R_reads' HO.out).2.2); (case m2 => exact (Kd.R_reads' HO.out).2.1); (case m3 => exact (Kd.R_reads' HO2.out).2.2); (case m4 => exact (Kd.R_reads' HO2.out).2.1); rintro e wx ⟨rfl, hb⟩; have n_ := Lib.hid (HT.out.drawn hb); clear HT hb; have HT := n_; clear n_)
            | (go_at_call 15; with_reducible refine (wire_Reader_Left.calls g1 q2 b2 LV q2 b2 w _ HT.out.a HT.out.d HL1.out).mono ?_; rintro e wx ⟨rfl, hi, hb, hk⟩; have n_ := Lib.hid (HT.out.one hi hb hk); clear HT hi hb hk; have HT := n_; clear n_)
            | (go_at_call 34; with_reducible refine (abugidaref02_Reader_Left.calls g2 s i2 b2 LV s i2 b2 w _ HT.out.b HT.out.d HL2.out).mono ?_; rintro e wx ⟨rfl, hi, hb, hk⟩; have n_ := Lib.hid (HT.out.two hi hb hk); clear HT hi hb hk; have HT := n_; clear n_)
            | (go_at_call 16; with_reducible refine (wire_Reader_Bad.calls g1 q2 b2 b2 q2 b2 w _ HT.out.a HT.out.d rfl).mono ?_; rintro e wx ⟨rfl, hi, hb, hk⟩; have n_ := Lib.hid (HT.out.one hi hb hk); clear HT hi hb hk; have HT := n_; clear n_)
            | (go_at_call 35; with_reducible refine (abugidaref02_Reader_Bad.calls g2 s i2 b2 b2 s i2 b2 w _ HT.out.b HT.out.d rfl).mono ?_; rintro e wx ⟨rfl, hi, hb, hk⟩; have n_ := Lib.hid (HT.out.two hi hb hk); clear HT hi hb hk; have HT := n_; clear n_))
          go_roundw
          case rel => exact ⟨n + 1, q2, b2, i2, by go_num, by omega, HT.out, HS2.out⟩
          case measure => first | omega | (simp [intOf]; omega)
        · obtain ⟨x, q2, i2, b2, hp, hr2, hs2, hlen⟩ := Texts_same s HS.out q b i HSIM.out
          obtain ⟨LV, hl1, hl2⟩ := Left_same s HS.out q2 b2 i2 hs2
          obtain ⟨k1, hp⟩ := Ev.rounds hp
          obtain ⟨k2, hr2⟩ := Ev.rounds hr2
          obtain ⟨k3, hs3⟩ := Ev.rounds (SameTexts_ev x hlen)
          have HS3 := Lib.hid hs3
          clear hs3 hlen
          have HP := Lib.hid hp
          have HR := Lib.hid hr2
          have HS2 := Lib.hid hs2
          have HL1 := Lib.hid hl1
          have HL2 := Lib.hid hl2
          clear hp hr2 hs2 hl1 hl2
          go_wp2_with (first
            | (go_at_call 32; with_reducible refine (wire_Reader_Texts.calls k1 g1 q b x q2 b2 w _ HT.out.a HT.out.d HP.out).mono ?_; rintro e wx ⟨v5, rfl, hO, hi, hb, hk⟩; have n_ := Lib.hid (HT.out.one hi hb hk); obtain ⟨A5, c5, rfl⟩ := Kd.R_slice hO; have HO := Lib.hid hO; clear HT hi hb hk hO; have HT := n_; clear n_)
            | (go_at_call 33; with_reducible refine (abugidaref02_Reader_Texts.calls k2 g2 s i b x s i2 b2 w _ HT.out.b HT.out.d HR.out).mono ?_; rintro e wx ⟨v6, rfl, hO2, hi, hb, hk⟩; have n_ := Lib.hid (HT.out.two hi hb hk); have n2_ := Lib.hid (R_past2 HT.out.b HO.out (by decide) hk); obtain ⟨A6, c6, rfl⟩ := Kd.R_slice hO2; have HO2 := Lib.hid hO2; clear HT hi hb hk hO2 HO; have HT := n_; have HO := n2_; clear n_ n2_)
            | (go_at_call 31; with_reducible refine (abugidaref02_SameTexts.calls k3 _ _ x _ _ x true _ ?m1 ?m2 ?m3 ?m4 HS3.out).mono ?_; (case m1 => exact (Kd.R_reads' HO.out).2.2); (case m2 => exact (Kd.R_reads' HO.out).2.1); (case m3 => exact (Kd.R_reads' HO2.out).2.2); (case m4 => exact (Kd.R_reads' HO2.out).2.1); rintro e wx ⟨rfl, hb⟩; have n_ := Lib.hid (HT.out.drawn hb); clear HT hb; have HT := n_; clear n_)
            | (go_at_call 15; with_reducible refine (wire_Reader_Left.calls g1 q2 b2 LV q2 b2 w _ HT.out.a HT.out.d HL1.out).mono ?_; rintro e wx ⟨rfl, hi, hb, hk⟩; have n_ := Lib.hid (HT.out.one hi hb hk); clear HT hi hb hk; have HT := n_; clear n_)
            | (go_at_call 34; with_reducible refine (abugidaref02_Reader_Left.calls g2 s i2 b2 LV s i2 b2 w _ HT.out.b HT.out.d HL2.out).mono ?_; rintro e wx ⟨rfl, hi, hb, hk⟩; have n_ := Lib.hid (HT.out.two hi hb hk); clear HT hi hb hk; have HT := n_; clear n_)
            | (go_at_call 16; with_reducible refine (wire_Reader_Bad.calls g1 q2 b2 b2 q2 b2 w _ HT.out.a HT.out.d rfl).mono ?_; rintro e wx ⟨rfl, hi, hb, hk⟩; have n_ := Lib.hid (HT.out.one hi hb hk); clear HT hi hb hk; have HT := n_; clear n_)
            | (go_at_call 35; with_reducible refine (abugidaref02_Reader_Bad.calls g2 s i2 b2 b2 s i2 b2 w _ HT.out.b HT.out.d rfl).mono ?_; rintro e wx ⟨rfl, hi, hb, hk⟩; have n_ := Lib.hid (HT.out.two hi hb hk); clear HT hi hb hk; have HT := n_; clear n_))
          go_roundw
          case rel => exact ⟨n + 1, q2, b2, i2, by go_num, by omega, HT.out, HS2.out⟩
          case measure => first | omega | (simp [intOf]; omega)
      · have hx1 : decide ((n : Int) < (l1.length : Int)) = true := decide_eq_true (by omega)
        have hx2 : decide ((n : Int) < 20) = false := decide_eq_false (by omega)
        go_wp2
        go_ret
        exact ⟨rfl, HT.out.d⟩
    · have hx1 : decide ((n : Int) < (l1.length : Int)) = false := decide_eq_false (by omega)
      go_wp2
      go_ret
      exact ⟨rfl, HT.out.d⟩
theorem u8_range {n : Int} (h : (Lit.int .u8 n).wf = true) : 0 ≤ n ∧ n ≤ 255 := bounds_u8 h
theorem wireReads_calls (w : World) (a0 : ByteArray) (h0 : a0.size ≤ 9223372036854775807) (A1 : Option Addr) (c1 : Nat) (l1 : List Int) (hC1 : Kd.C (Kd.int .u8) w A1 l1.length l1) (hc1 : l1.length ≤ c1) (hl1 : l1.length ≤ 9223372036854775807) (hw1 : ∀ n ∈ l1, (Lit.int .u8 n).wf = true) :
    Calls Try.prog 6 #[.string a0, .slice A1 l1.length c1] w fun e w' => e = .returned (.bool true) ∧ Below w.heap.size w w' :=
  reads_walk a0 A1 c1 l1 w hC1 hc1 hl1 (fun n hn => u8_range (hw1 n hn))
end Go.Proofs.Ytibdgpnedlpdbaa.Pure
