/- SignKeys. -/
import Derived.Test.YtoolionhheiihaaSgY
set_option linter.unusedVariables false
set_option linter.unusedSimpArgs false
namespace Go.Proofs.Ytoolionhheiihaa.Sg
open Go.RowKit Go.Proofs.YtoolionhheiihaaW.PrintWords Go.Proofs.YtoolionhheiihaaW.PrintLast Go.Proofs.YtoolionhheiihaaW.PrintMore Go.Proofs.Ytoolionhheiihaa.Dg Go.Proofs.Ytoolionhheiihaa.Gv Go.Proofs.Ytoolionhheiihaa.Pb Go.Proofs.Ytoolionhheiihaa.Gw Go.Proofs.Ytoolionhheiihaa.Pure
theorem S_keep {w0 W W' : World} {g g' : Nat} {s : ByteArray} {b : Bool} (h : IsS73 w0 W g s b) (hne : g ≠ g') (hk : KeepBut W W' g' none) : IsS73 w0 W' g s b :=
  ⟨(hk.2 g h.lt hne (by simp)).trans h.1, h.2⟩
/-- Two readers. -/
def Two (w : World) (g1 : Nat) (s1 : ByteArray) (b1 : Bool) (g2 : Nat) (s2 : ByteArray) (b2 : Bool) (W : World) : Prop := IsS73 w W g1 s1 b1 ∧ IsS73 w W g2 s2 b2 ∧ g1 ≠ g2 ∧ Below w.heap.size w W
theorem Two.a {w W : World} {g1 g2 : Nat} {s1 s2 : ByteArray} {b1 b2 : Bool} (h : Two w g1 s1 b1 g2 s2 b2 W) : IsS73 w W g1 s1 b1 := h.1
theorem Two.b {w W : World} {g1 g2 : Nat} {s1 s2 : ByteArray} {b1 b2 : Bool} (h : Two w g1 s1 b1 g2 s2 b2 W) : IsS73 w W g2 s2 b2 := h.2.1
theorem Two.d {w W : World} {g1 g2 : Nat} {s1 s2 : ByteArray} {b1 b2 : Bool} (h : Two w g1 s1 b1 g2 s2 b2 W) : Below w.heap.size w W := h.2.2.2
theorem Two.mk' {w w5 w6 : World} {g1 g2 : Nat} {s1 s2 : ByteArray} {b1 b2 : Bool} (h1 : IsS73 w w5 g1 s1 b1) (hB : Below w.heap.size w w5) (h2 : IsS73 w5 w6 g2 s2 b2) (hb : Below w5.heap.size w5 w6) : Two w g1 s1 b1 g2 s2 b2 w6 :=
  ⟨h1.below hb, ⟨h2.1, Nat.le_trans hB.size h2.2⟩, Nat.ne_of_lt (Nat.lt_of_lt_of_le h1.lt h2.2), hB.trans (hb.mono hB.size)⟩
theorem Two.one {w W W' : World} {g1 g2 : Nat} {s1 s2 s' : ByteArray} {b1 b2 b' : Bool} (h : Two w g1 s1 b1 g2 s2 b2 W) (h1 : IsS73 w W' g1 s' b') (hB : Below w.heap.size w W') (hk : KeepBut W W' g1 none) : Two w g1 s' b' g2 s2 b2 W' :=
  ⟨h1, S_keep h.2.1 (Ne.symm h.2.2.1) hk, h.2.2.1, hB⟩
theorem Two.two {w W W' : World} {g1 g2 : Nat} {s1 s2 s' : ByteArray} {b1 b2 b' : Bool} (h : Two w g1 s1 b1 g2 s2 b2 W) (h1 : IsS73 w W' g2 s' b') (hB : Below w.heap.size w W') (hk : KeepBut W W' g2 none) : Two w g1 s1 b1 g2 s' b' W' :=
  ⟨S_keep h.1 h.2.2.1 hk, h1, h.2.2.1, hB⟩

set_option maxHeartbeats 4000000 in
set_option maxRecDepth 100000 in
theorem signKeys_calls (w : World) (a0 : ByteArray) (z0 : a0.size ≤ 9223372036854775807) (a1 : ByteArray) (z1 : a1.size ≤ 9223372036854775807) (q0 : Int) (wq0 : (Lit.int .u8 q0).wf = true) (q1 : Int) (wq1 : (Lit.int .u8 q1).wf = true) :
    Calls Try.prog 9 #[.string a0, .string a1, .agg #[.int .u8 q0, .int .u8 q1]] w fun e w' => e = .returned (.bool true) ∧ Below w.heap.size w w' := by
  obtain ⟨n, i, h1, h5, hi, hsome⟩ := some_calls q0 q1 (u8_of wq0) (u8_of wq1) w
  obtain ⟨s, hs⟩ : ∃ s, s = c200 a0 := ⟨_, rfl⟩
  obtain ⟨m, hm⟩ : ∃ m, m = c200 a1 := ⟨_, rfl⟩
  have hsz := c200_size a0
  have hmz := c200_size a1
  have HSH := Lib.hid (fun W => short_calls a0 W)
  have HMH := Lib.hid (fun W => short_calls a1 W)
  rw [← hs] at hsz HSH
  rw [← hm] at hmz HMH
  have HSO := Lib.hid hsome
  have hP1 := ProofF_lvs s n (by omega) (by omega) i
  have hP2 := ProofF_lvs s (n + 1) (by omega) (by omega) i
  have hL18 := sgs_length s i (OfB m) 18
  have hL8 := sgs_size s i (OfB m) 18
  obtain ⟨e1, e2, _⟩ := sig_read i (sgs s i (OfB m) 18) (ProofF (lvs s n) i) ⟨#[]⟩ (by omega) (by omega) (by omega) (fun t h => by rw [hL8 t h]; omega) (fun t h => Nat.le_trans (hP1.2 t h) (by omega)) (by decide)
  obtain ⟨f1, f2, _⟩ := sig_read i (sgs s i (OfB m) 18) (ProofF (lvs s (n + 1)) i) ⟨#[]⟩ (by omega) (by omega) (by omega) (fun t h => by rw [hL8 t h]; omega) (fun t h => Nat.le_trans (hP2.2 t h) (by omega)) (by decide)
  simp only [append_nil] at e1 e2 f1 f2
  obtain ⟨K1, h12⟩ := Ev.and e1 e2
  obtain ⟨K2, h34⟩ := Ev.and f1 f2
  have k1 := (h12 (max K1 K2) (by omega)).1
  have k2 := (h12 (max K1 K2) (by omega)).2
  have k3 := (h34 (max K1 K2) (by omega)).1
  have k4 := (h34 (max K1 K2) (by omega)).2
  have kA : (IntB (i : Int) ++ TextsB (sgs s i (OfB m) 18)) ++ TextsB (ProofF (lvs s n) i) = SigB s n i m := rfl
  have kB : (IntB (i : Int) ++ TextsB (sgs s i (OfB m) 18)) ++ TextsB (ProofF (lvs s (n + 1)) i) = SigB s (n + 1) i m := rfl
  rw [kA] at k1
  rw [kB] at k3
  have SA : ∀ W : World, Calls Try.prog 15 #[.string s, .int .i64 n, .int .i64 i, .string m] W fun e w' => e = .returned (.tuple #[.string (SigB s n i m), .int .i64 0]) ∧ Below W.heap.size W w' := fun W => Sign_yes s (by omega) n i m (by omega) W h1 (by omega) hi
  have SB : ∀ W : World, Calls Try.prog 15 #[.string s, .int .i64 ((n : Int) + 1), .int .i64 i, .string m] W fun e w' => e = .returned (.tuple #[.string (SigB s (n + 1) i m), .int .i64 0]) ∧ Below W.heap.size W w' := fun W => Sign_yes s (by omega) (n + 1) i m (by omega) W (by omega) (by omega) (by omega)
  have SC : ∀ W : World, Calls Try.prog 15 #[.string s, .int .i64 n, .int .i64 n, .string m] W fun e w' => e = .returned (.tuple #[.string ⟨#[]⟩, .int .i64 1]) ∧ Below W.heap.size W w' := fun W => Sign_no s n n m W (by omega)
  obtain ⟨k, hk⟩ : ∃ k, k = max K1 K2 := ⟨_, rfl⟩
  rw [← hk] at k1 k2 k3 k4
  generalize TextsB (ProofF (lvs s n) i) = r1 at *
  generalize TextsB (ProofF (lvs s (n + 1)) i) = r2 at *
  generalize SigB s n i m = sa at *
  generalize SigB s (n + 1) i m = sb at *
  generalize sgs s i (OfB m) 18 = L at *
  generalize TextsB L ++ r1 = t1 at *
  generalize TextsB L ++ r2 = t2 at *
  have K1' := Lib.hid k1
  have K2' := Lib.hid k2
  have K3' := Lib.hid k3
  have K4' := Lib.hid k4
  have HSA := Lib.hid SA
  have HSB := Lib.hid SB
  have HSC := Lib.hid SC
  have HL18 := Lib.hid hL18
  have hlb : L.length ≤ 9223372036854775807 := by omega
  have hx18 : ((L.length : Int) != 18) = false := by rw [hL18]; rfl
  have hxl : ((L.length : Int) != (L.length : Int)) = false := by simp
  obtain ⟨Wb, hWb⟩ : ∃ W, W = w.alloc (.cells #[.int .u8 q0, .int .u8 q1] 34) := ⟨_, rfl⟩
  have hbb : Below w.heap.size w Wb := by rw [hWb]; exact below_alloc (Below.refl _ _) _
  have hbl : Wb.heap[w.heap.size]? = some (.cells #[.int .u8 q0, .int .u8 q1] 34 (0, 0)) := by rw [hWb]; exact blk_new w _
  have HBB := Lib.hid hbb
  have HBL := Lib.hid hbl
  have HWb := Lib.hid hWb
  have hxi : ((i : Int) != (i : Int)) = false := by simp
  have hlen := len_strs
  clear hs hm wq0 wq1 hsome hbb hbl hWb e1 e2 f1 f2 h12 h34 k1 k2 k3 k4 hk SA SB SC hL18 hL8 hP1 hP2 kA kB
  go_enter Try.func9, Try.ntmps9
  go_wp2_with (first
    | ((go_at_call 10); rw [← HWb.out]; (with_reducible refine (sanity_any _).mono ?_); rintro e w1 ⟨rfl, hb1⟩; have HB1 := Lib.hid (HBB.out.trans (hb1.mono HBB.out.size)); have HBL1 := Lib.hid ((hb1.block _ (lt_of_block HBL.out)).trans HBL.out); have c0 : w1.cell? ⟨w.heap.size, 0, none⟩ = some (.int .u8 q0) := ck HBL1.out _ _ rfl; have c1 : w1.cell? ⟨w.heap.size, 1, none⟩ = some (.int .u8 q1) := ck HBL1.out _ _ rfl; clear hb1)
    | ((go_at_call 17); (with_reducible refine (HSO.out _).mono ?_); rintro e w2 ⟨rfl, hb2⟩; have HX := Lib.hid (HB1.out.trans ((drawn_below hb2).mono HB1.out.size)); clear hb2 c0 c1)
    | ((go_at_call 11); (first
      | (with_reducible refine (HSH.out _).mono ?_)
      | (with_reducible refine (HMH.out _).mono ?_)); rintro e wx ⟨rfl, hbx⟩; have n_ := Lib.hid (HX.out.trans (hbx.mono HX.out.size)); clear HX hbx; have HX := n_; clear n_)
    | ((go_at_call 15); (first
      | (with_reducible refine (HSA.out _).mono ?_)
      | (with_reducible refine (HSB.out _).mono ?_)); rintro e wx ⟨rfl, hbx⟩; have n_ := Lib.hid (HX.out.trans (hbx.mono HX.out.size)); clear HX hbx; have HX := n_; clear n_)
    | ((go_at_call 19); (first
      | ((with_reducible refine (wire_New.calls sa sa false w _ HX.out rfl).mono ?_); rintro e w5 ⟨g1, rfl, hi5, hb5, -⟩; have HI5 := Lib.hid hi5; have HB5 := Lib.hid hb5; clear HX hi5 hb5)
      | ((with_reducible refine (wire_New.calls sb sb false w5 _ (Below.refl _ _) rfl).mono ?_); rintro e w6 ⟨g2, rfl, hi6, hb6, hbb6⟩; have HT := Lib.hid (Two.mk' HI5.out HB5.out hi6 hbb6); clear hi6 hb6 hbb6)))
    | ((go_at_call 20); (first
      | ((with_reducible refine (wire_Reader_Int.calls k g1 sa false _ _ _ w _ HT.out.a HT.out.d K1'.out).mono ?_); rintro e w7 ⟨rfl, hi7, hb7, hk7⟩; have HT7 := Lib.hid (HT.out.one hi7 hb7 hk7); clear hi7 hb7 hk7)
      | ((with_reducible refine (wire_Reader_Int.calls k g2 sb false _ _ _ w _ HT7.out.b HT7.out.d K3'.out).mono ?_); rintro e w8 ⟨rfl, hi8, hb8, hk8⟩; have HT8 := Lib.hid (HT7.out.two hi8 hb8 hk8); clear hi8 hb8 hk8)))
    | ((go_at_call 21); (first
      | ((with_reducible refine (wire_Reader_Texts.calls k g1 _ _ L _ _ w _ HT8.out.a HT8.out.d K2'.out).mono ?_); rintro e w9 ⟨v9, rfl, hR9, hi9, hb9, hk9⟩; have HT9 := Lib.hid (HT8.out.one hi9 hb9 hk9); have HR9 := Lib.hid hR9; clear hi9 hb9 hk9 hR9)
      | ((with_reducible refine (wire_Reader_Texts.calls k g2 _ _ L _ _ w _ HT9.out.b HT9.out.d K4'.out).mono ?_); rintro e wa ⟨va, rfl, hRa, hia, hba, hka⟩; have HR9a := Lib.hid (R_reader HT9.out.b HR9.out (by decide) hka); obtain ⟨A9, c9, rfl, hl9, hC9⟩ := Kd.R_reads HR9a.out; obtain ⟨Aa, ca, rfl, hla, hCa⟩ := Kd.R_reads hRa; have HC9 := Lib.hid hC9; have HCa := Lib.hid hCa; have HBa := Lib.hid hba; clear hia hba hka hRa hC9 hCa))))
  obtain ⟨ad9, eA9, _⟩ := HC9.out.2.2 (by rw [HL18.out]; omega)
  subst eA9
  obtain ⟨ada, eAa, _⟩ := HCa.out.2.2 (by rw [HL18.out]; omega)
  subst eAa
  clear hx18 hxl hxi
  go_loopw [18] (fun kv wr => ∃ c : Nat, c ≤ L.length ∧ kv = .int .i64 c ∧ Below wa.heap.size wa wr) (fun kv _ => L.length - (intOf kv).toNat)
  case atStart => exact ⟨0, by omega, rfl, Below.refl _ _⟩
  case round =>
    obtain ⟨c, hc, rfl, hBr⟩ := hrel
    have HBr := Lib.hid hBr
    clear hBr
    by_cases hlc : c < L.length
    · have hx1 : decide ((c : Int) < (L.length : Int)) = true := decide_eq_true (by omega)
      have hx2 : decide (c < L.length) = true := decide_eq_true hlc
      obtain ⟨x, hx⟩ : ∃ x, x = L.getD c ⟨#[]⟩ := ⟨_, rfl⟩
      have q1 : wr.drew.cell? (ad9.add c) = some (.string x) := by
        have := Kd.foot_string (Kd.C_below HC9.out HBr.out) (c : Int) (by omega) (by omega)
        rw [rdOf, Int.toNat_natCast] at this
        rw [hx]
        exact this
      have q2 : wr.drew.cell? (ada.add c) = some (.string x) := by
        have := Kd.foot_string (Kd.C_below HCa.out HBr.out) (c : Int) (by omega) (by omega)
        rw [rdOf, Int.toNat_natCast] at this
        rw [hx]
        exact this
      have r1 : (0 ≤ (c : Int)) = True := eq_true (by omega)
      have r2 : ((c : Int) < (L.length : Int)) = True := eq_true (by omega)
      have HBd := Lib.hid (below_drew1 HBr.out)
      have hv := same_toList x
      clear hx
      go_wp2
      refine start_ (n := 9) (S := fun w' => w'.cell? (ad9.add c) = some (.string x) ∧ w'.cell? (ada.add c) = some (.string x)) (ds := []) #[false, false, false, false, false, false, false, false, false] (by kernel_rfl) rfl rfl ⟨q1, q2⟩ (fun hHeld => ?_)
      generalize wr.drew = wd at HBd q1 q2 hHeld ⊢
      refine pure_ (i := 0) (N := some 93) (v := ?_) (a' := ?_) #[true, false, false, false, false, false, false, false, false] rfl rfl (by kernel_rfl) (fun _ _ _ h => h) (Or.inl ⟨by rfl, ?_⟩) ?_ ?_
      rotate_left
      · intro w'
        go_simp
        with_reducible rfl
      rotate_left
      · simp only [Act.put, List.setIfInBounds_toArray, List.set_cons_zero, List.set_cons_succ, i64_w, i32_w]
        rfl
      refine pure_ (i := 1) (N := some 94) (v := ?_) (a' := ?_) #[true, true, false, false, false, false, false, false, false] rfl rfl (by kernel_rfl) (fun _ _ _ h => h) (Or.inl ⟨by rfl, ?_⟩) ?_ ?_
      rotate_left
      · intro w'
        go_simp
        with_reducible rfl
      rotate_left
      · simp only [Act.put, List.setIfInBounds_toArray, List.set_cons_zero, List.set_cons_succ, i64_w, i32_w]
        rfl
      refine pure_ (i := 2) (N := some 95) (v := ?_) (a' := ?_) #[true, true, true, false, false, false, false, false, false] rfl rfl (by kernel_rfl) (fun _ _ _ h => h) (Or.inl ⟨by rfl, ?_⟩) ?_ ?_
      rotate_left
      · intro w'
        go_simp
        with_reducible rfl
      rotate_left
      · simp only [Act.put, List.setIfInBounds_toArray, List.set_cons_zero, List.set_cons_succ, i64_w, i32_w]
        rfl
      refine pure_ (i := 4) (N := some 97) (v := ?_) (a' := ?_) #[true, true, true, false, true, false, false, false, false] rfl rfl (by kernel_rfl) (fun _ _ _ h => h) (Or.inl ⟨by rfl, ?_⟩) ?_ ?_
      rotate_left
      · intro w'
        go_simp
        with_reducible rfl
      rotate_left
      · simp only [Act.put, List.setIfInBounds_toArray, List.set_cons_zero, List.set_cons_succ, i64_w, i32_w]
        rfl
      refine pure_ (i := 5) (N := some 98) (v := ?_) (a' := ?_) #[true, true, true, false, true, true, false, false, false] rfl rfl (by kernel_rfl) (fun _ _ _ h => h) (Or.inl ⟨by rfl, ?_⟩) ?_ ?_
      rotate_left
      · intro w'
        go_simp
        with_reducible rfl
      rotate_left
      · simp only [Act.put, List.setIfInBounds_toArray, List.set_cons_zero, List.set_cons_succ, i64_w, i32_w]
        rfl
      refine pure_ (i := 6) (N := some 99) (v := ?_) (a' := ?_) #[true, true, true, false, true, true, true, false, false] rfl rfl (by kernel_rfl) (fun _ _ _ h => h) (Or.inl ⟨by rfl, ?_⟩) ?_ ?_
      rotate_left
      · intro w'
        go_simp
        with_reducible rfl
      rotate_left
      · simp only [Act.put, List.setIfInBounds_toArray, List.set_cons_zero, List.set_cons_succ, i64_w, i32_w]
        rfl
      refine take_ (i := 3) (N := some 96) (v := ?_) (a' := ?_) #[true, true, true, true, true, true, true, false, false] rfl rfl (by kernel_rfl) (fun _ _ _ h => h) (Or.inl ⟨by rfl, ?_⟩) hHeld ?_ ?_
      rotate_left
      · rintro w' ⟨s0, s1⟩
        go_simp
        with_reducible rfl
      rotate_left
      · simp only [Act.put, List.setIfInBounds_toArray, List.set_cons_zero, List.set_cons_succ, i64_w, i32_w]
        rfl
      refine take_ (i := 7) (N := some 100) (v := ?_) (a' := ?_) #[true, true, true, true, true, true, true, true, false] rfl rfl (by kernel_rfl) (fun _ _ _ h => h) (Or.inl ⟨by rfl, ?_⟩) hHeld ?_ ?_
      rotate_left
      · rintro w' ⟨s0, s1⟩
        go_simp
        with_reducible rfl
      rotate_left
      · simp only [Act.put, List.setIfInBounds_toArray, List.set_cons_zero, List.set_cons_succ, i64_w, i32_w]
        rfl
      refine pure_ (i := 8) (N := some 101) (v := ?_) (a' := ?_) #[true, true, true, true, true, true, true, true, true] rfl rfl (by kernel_rfl) (fun _ _ _ h => h) (Or.inl ⟨by rfl, ?_⟩) ?_ ?_
      rotate_left
      · intro w'
        go_simp
        with_reducible rfl
      rotate_left
      · simp only [Act.put, List.setIfInBounds_toArray, List.set_cons_zero, List.set_cons_succ, i64_w, i32_w]
        rfl
      refine done_ (by kernel_rfl) ?_
      go_wp2
      go_roundw
      case rel => exact ⟨c + 1, by omega, by go_num, HBd.out⟩
      case measure => simp [intOf]; omega
    · obtain rfl : c = L.length := by omega
      have hx1 : decide ((L.length : Int) < (L.length : Int)) = false := by simp
      have hx2 : decide (L.length < L.length) = false := by simp
      have HX := Lib.hid (HBa.out.trans (HBr.out.mono HBa.out.size))
      go_wp2_with (first
        | ((go_at_call 11); (first
          | (with_reducible refine (HSH.out _).mono ?_)
          | (with_reducible refine (HMH.out _).mono ?_)); rintro e wx ⟨rfl, hbx⟩; have n_ := Lib.hid (HX.out.trans (hbx.mono HX.out.size)); clear HX hbx; have HX := n_; clear n_)
        | ((go_at_call 15); (with_reducible refine (HSC.out _).mono ?_); rintro e wx ⟨rfl, hbx⟩; have n_ := Lib.hid (HX.out.trans (hbx.mono HX.out.size)); clear HX hbx; have HX := n_; clear n_))
      go_ret
      exact ⟨rfl, HX.out⟩
end Go.Proofs.Ytoolionhheiihaa.Sg
