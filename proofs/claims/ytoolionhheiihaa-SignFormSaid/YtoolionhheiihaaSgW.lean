/- SignForm. -/
import Derived.Test.YtoolionhheiihaaSgY
set_option linter.unusedVariables false
set_option linter.unusedSimpArgs false
namespace Go.Proofs.Ytoolionhheiihaa.Sg
open Go.RowKit Go.Proofs.YtoolionhheiihaaW.PrintWords Go.Proofs.YtoolionhheiihaaW.PrintLast Go.Proofs.YtoolionhheiihaaW.PrintMore Go.Proofs.Ytoolionhheiihaa.Dg Go.Proofs.Ytoolionhheiihaa.Gv Go.Proofs.Ytoolionhheiihaa.Pb Go.Proofs.Ytoolionhheiihaa.Gw Go.Proofs.Ytoolionhheiihaa.Pure
set_option maxHeartbeats 4000000 in
set_option maxRecDepth 100000 in
theorem signForm_calls (w : World) (a0 : ByteArray) (z0 : a0.size ≤ 9223372036854775807) (a1 : ByteArray) (z1 : a1.size ≤ 9223372036854775807) (q0 : Int) (wq0 : (Lit.int .u8 q0).wf = true) (q1 : Int) (wq1 : (Lit.int .u8 q1).wf = true) :
    Calls Try.prog 6 #[.string a0, .string a1, .agg #[.int .u8 q0, .int .u8 q1]] w fun e w' => e = .returned (.bool true) ∧ Below w.heap.size w w' := by
  obtain ⟨n, i, h1, h5, hi, hsome⟩ := some_calls q0 q1 (u8_of wq0) (u8_of wq1) w
  obtain ⟨s, hs⟩ : ∃ s, s = c200 a0 := ⟨_, rfl⟩
  obtain ⟨m, hm⟩ : ∃ m, m = c200 a1 := ⟨_, rfl⟩
  have hsz := c200_size a0
  have hmz := c200_size a1
  have HSH := Lib.hid (fun W => short_calls a0 W)
  have HMH := Lib.hid (fun W => short_calls a1 W)
  rw [← hs] at hsz HSH
  rw [← hm] at hmz HMH
  have HSO := Lib.hid hsome
  have hP1 := ProofF_lvs s n (by omega) (by omega) i
  have hL18 := sgs_length s i (OfB m) 18
  have hL8 := sgs_size s i (OfB m) 18
  have hLg := sgs_get s i (OfB m) 18
  obtain ⟨e1, e2, e3⟩ := sig_read i (sgs s i (OfB m) 18) (ProofF (lvs s n) i) ⟨#[]⟩ (by omega) (by omega) (by omega) (fun t h => by rw [hL8 t h]; omega) (fun t h => Nat.le_trans (hP1.2 t h) (by omega)) (by decide)
  simp only [append_nil] at e1 e2 e3
  obtain ⟨k, k1, k2, k3⟩ := Ev.three e1 e2 e3
  have kA : (IntB (i : Int) ++ TextsB (sgs s i (OfB m) 18)) ++ TextsB (ProofF (lvs s n) i) = SigB s n i m := rfl
  rw [kA] at k1
  have SA : ∀ W : World, Calls Try.prog 15 #[.string s, .int .i64 n, .int .i64 i, .string m] W fun e w' => e = .returned (.tuple #[.string (SigB s n i m), .int .i64 0]) ∧ Below W.heap.size W w' := fun W => Sign_yes s (by omega) n i m (by omega) W h1 (by omega) hi
  have SP : ∀ W : World, Calls Try.prog 13 #[.string s, .int .i64 n] W fun e w' => e = .returned (.tuple #[.string (PubB s n), .int .i64 0]) ∧ Below W.heap.size W w' := fun W => Public_yes s (by omega) n W h1 (by omega)
  obtain ⟨b, hb⟩ : ∃ b, b = OfB m := ⟨_, rfl⟩
  rw [← hb] at hL18 hL8 hLg k1 k2
  obtain ⟨kd, hkd⟩ := (Digits_ev m (by omega)).rounds
  obtain ⟨kv, hkv⟩ := (PureD.Verify_ev (PubB s n) (OfB (ends2 (sgs s i b 18) b 18)) i (ProofF (lvs s n) i) (by omega) (by rw [OfB_size]; omega) (fun t h => Nat.le_trans (hP1.2 t h) (by omega))).rounds
  have hver : VerifyF (PubB s n) (OfB (ends2 (sgs s i b 18) b 18)) i (ProofF (lvs s n) i) = true := by
    rw [hb, ends2_right]
    have := verify_own s n i (by omega) hi (PubB s n)
    rwa [decide_eq_true rfl] at this
  rw [hver] at hkv
  rw [← hb] at hkd
  obtain ⟨kl, hkl⟩ := Ev.all (g := fun k c => abugidaref04_Link.f k s (i : Int) ((c : Nat) : Int) (dgt b c)) (r := fun c => lnk (startB s i c) (dgt b c).toNat) 18 (fun c hc => by
    have hr := dgt_range b c
    have e : dgt b c = ((dgt b c).toNat : Int) := by omega
    rw [e, Int.toNat_natCast]
    exact link_ev s (by omega) i c _ (by omega) (by omega) (by omega))
  obtain ⟨km, hkm⟩ := Ev.all (g := fun k c => abugidaref04_Links.f k ((sgs s i b 18).getD c ⟨#[]⟩) (15 - dgt b c)) (r := fun c => lnk ((sgs s i b 18).getD c ⟨#[]⟩) (15 - dgt b c).toNat) 18 (fun c hc => by
    have hr := dgt_range b c
    have e : 15 - dgt b c = ((15 - dgt b c).toNat : Int) := by omega
    rw [e, Int.toNat_natCast, hLg c hc]
    exact links_ev _ (by rw [lnk_size8 (startB s i c) (OfB_size _)]; omega) _ (by omega))
  have hsz8 : ∀ c : Nat, c < 18 → ((sgs s i b 18).getD c ⟨#[]⟩).size = 8 := fun c hc => by rw [hLg c hc, lnk_size8 (startB s i c) (OfB_size _)]
  have hends := fun (c : Nat) (hc : c ≤ 18) => ends2_size (sgs s i b 18) b c (fun j hj => hsz8 j (by omega))
  obtain ⟨ko, hko⟩ := (refOf_ev (ends2 (sgs s i b 18) b 18) (by rw [hends 18 (by omega)]; omega)).rounds
  have hlk : ∀ c : Nat, c < 18 → abugidaref04_Link.f kl s (i : Int) (c : Int) (dgt b c) = some ((sgs s i b 18).getD c ⟨#[]⟩) := fun c hc => by rw [hLg c hc]; exact hkl c hc
  have hsucc : ∀ c : Nat, ends2 (sgs s i b 18) b (c + 1) = ends2 (sgs s i b 18) b c ++ lnk ((sgs s i b 18).getD c ⟨#[]⟩) (15 - dgt b c).toNat := fun c => rfl
  have hPl := hP1.1
  generalize ProofF (lvs s n) i = P at *
  generalize SigB s n i m = sa at *
  generalize PubB s n = pub at *
  generalize sgs s i b 18 = L at *
  generalize TextsB L ++ TextsB P = t1 at *
  have K1' := Lib.hid k1
  have K2' := Lib.hid k2
  have K3' := Lib.hid k3
  have HSA := Lib.hid SA
  have HSP := Lib.hid SP
  have HL18 := Lib.hid hL18
  have HKD := Lib.hid hkd
  have HKV := Lib.hid hkv
  have HKM := Lib.hid hkm
  have HLK := Lib.hid hlk
  have HKO := Lib.hid hko
  have H8 := Lib.hid hsz8
  have HEN := Lib.hid hends
  have HSU := Lib.hid hsucc
  have hlb : L.length ≤ 9223372036854775807 := by omega
  have hx18 : ((L.length : Int) != 18) = false := by rw [hL18]; rfl
  obtain ⟨Wb, hWb⟩ : ∃ W, W = w.alloc (.cells #[.int .u8 q0, .int .u8 q1] 34) := ⟨_, rfl⟩
  have hbb : Below w.heap.size w Wb := by rw [hWb]; exact below_alloc (Below.refl _ _) _
  have hbl : Wb.heap[w.heap.size]? = some (.cells #[.int .u8 q0, .int .u8 q1] 34 (0, 0)) := by rw [hWb]; exact blk_new w _
  have HBB := Lib.hid hbb
  have HBL := Lib.hid hbl
  have HWb := Lib.hid hWb
  have hxi : ((i : Int) != (i : Int)) = false := by simp
  have hlen := len_strs
  clear hs hm wq0 wq1 hsome hbb hbl hWb e1 e2 e3 k1 k2 k3 SA SP hL18 hL8 hLg hP1 kA hkd hkv hkl hkm hlk hko hver hsz8 hends hsucc hb
  go_enter Try.func6, Try.ntmps6
  go_wp2_with (first
    | ((go_at_call 10); rw [← HWb.out]; (with_reducible refine (sanity_any _).mono ?_); rintro e w1 ⟨rfl, hb1⟩; have HB1 := Lib.hid (HBB.out.trans (hb1.mono HBB.out.size)); have HBL1 := Lib.hid ((hb1.block _ (lt_of_block HBL.out)).trans HBL.out); have c0 : w1.cell? ⟨w.heap.size, 0, none⟩ = some (.int .u8 q0) := ck HBL1.out _ _ rfl; have c1 : w1.cell? ⟨w.heap.size, 1, none⟩ = some (.int .u8 q1) := ck HBL1.out _ _ rfl; clear hb1)
    | ((go_at_call 17); (with_reducible refine (HSO.out _).mono ?_); rintro e w2 ⟨rfl, hb2⟩; have HX := Lib.hid (HB1.out.trans ((drawn_below hb2).mono HB1.out.size)); clear hb2 c0 c1)
    | ((go_at_call 13); (with_reducible refine (HSP.out _).mono ?_); rintro e wx ⟨rfl, hbx⟩; have n_ := Lib.hid (HX.out.trans (hbx.mono HX.out.size)); clear HX hbx; have HX := n_; clear n_)
    | ((go_at_call 15); (with_reducible refine (HSA.out _).mono ?_); rintro e wx ⟨rfl, hbx⟩; have n_ := Lib.hid (HX.out.trans (hbx.mono HX.out.size)); clear HX hbx; have HX := n_; clear n_)
    | ((go_at_call 19); (with_reducible refine (wire_New.calls sa sa false w _ HX.out rfl).mono ?_); rintro e w5 ⟨g, rfl, hi5, hb5, -⟩; have HI5 := Lib.hid hi5; have HB5 := Lib.hid hb5; clear HX hi5 hb5)
    | ((go_at_call 20); (with_reducible refine (wire_Reader_Int.calls k g sa false _ _ _ w _ HI5.out HB5.out K1'.out).mono ?_); rintro e w6 ⟨rfl, hi6, hb6, -⟩; have HI6 := Lib.hid hi6; have HB6 := Lib.hid hb6; clear hi6 hb6)
    | ((go_at_call 21); (first
      | ((with_reducible refine (wire_Reader_Texts.calls k g _ _ L _ _ w _ HI6.out HB6.out K2'.out).mono ?_); rintro e w7 ⟨v7, rfl, hR7, hi7, hb7, -⟩; have HI7 := Lib.hid hi7; have HB7 := Lib.hid hb7; have HR7 := Lib.hid hR7; clear hi7 hb7 hR7)
      | ((with_reducible refine (wire_Reader_Texts.calls k g _ _ P _ _ w _ HI7.out HB7.out K3'.out).mono ?_); rintro e w8 ⟨v8, rfl, hR8, hi8, hb8, hk8⟩; have HR78 := Lib.hid (R_reader HI7.out HR7.out (by decide) hk8); obtain ⟨A7, c7, rfl, hl7, hC7⟩ := Kd.R_reads HR78.out; obtain ⟨A8, c8, rfl, hl8, hC8⟩ := Kd.R_reads hR8; have HI8 := Lib.hid hi8; have HB8 := Lib.hid hb8; have HR8 := Lib.hid hR8; clear hi8 hb8 hR8 hk8 hC7 hC8)))
    | ((go_at_call 22); (with_reducible refine (wire_Reader_Bad.calls g ⟨#[]⟩ false false ⟨#[]⟩ false w _ HI8.out HB8.out rfl).mono ?_); rintro e w9 ⟨rfl, hi9, hb9, hk9⟩; have HI9 := Lib.hid hi9; have HB9 := Lib.hid hb9; have HR79 := Lib.hid (R_reader HI8.out HR78.out (by decide) hk9); have HR89 := Lib.hid (R_reader HI8.out HR8.out (by decide) hk9); clear hi9 hb9 hk9)
    | ((go_at_call 23); (with_reducible refine (wire_Reader_Left.calls g ⟨#[]⟩ false 0 ⟨#[]⟩ false w _ HI9.out HB9.out rfl).mono ?_); rintro e wa ⟨rfl, hia, hba, hka⟩; have HX := Lib.hid hba; have HR7a := Lib.hid (R_reader HI9.out HR79.out (by decide) hka); have HR8a := Lib.hid (R_reader HI9.out HR89.out (by decide) hka); clear hia hba hka)
    | ((go_at_call 11); (first
      | (with_reducible refine (HSH.out _).mono ?_; rintro e wx ⟨rfl, hbx⟩; have n_ := Lib.hid (HX.out.trans (hbx.mono HX.out.size)); clear HX hbx; have HX := n_; clear n_)
      | ((with_reducible refine (HMH.out _).mono ?_); rintro e wx ⟨rfl, hbx⟩; have HR7b := Lib.hid (Kd.R_below HR7a.out hbx); have HR8b := Lib.hid (Kd.R_below HR8a.out hbx); have n_ := Lib.hid (HX.out.trans (hbx.mono HX.out.size)); clear HX hbx; have HX := n_; clear n_)
      | ((with_reducible refine (HMH.out _).mono ?_); rintro e wx ⟨rfl, hbx⟩; have n_ := Lib.hid (HX.out.trans (hbx.mono HX.out.size)); clear HX hbx; have HX := n_; clear n_)))
    | ((go_at_call 24); (with_reducible refine (abugidaref04_Digits.calls kd m _ _ HKD.out).mono ?_); rintro e wd ⟨vd, rfl, hRd, hbd⟩; obtain ⟨Ad, cd, rfl, hld, hCd⟩ := Kd.R_reads hRd; have HCd := Lib.hid hCd; have HR7c := Lib.hid (Kd.R_below HR7b.out hbd); have HR8c := Lib.hid (Kd.R_below HR8b.out hbd); have HBd := Lib.hid (HX.out.trans (hbd.mono HX.out.size)); clear HX hbd hRd hCd))
  obtain ⟨A7', c7', e7, _, hC7⟩ := Kd.R_reads HR7c.out
  cases e7
  obtain ⟨A8', c8', e8, _, hC8⟩ := Kd.R_reads HR8c.out
  cases e8
  obtain ⟨ad7, eA7, _⟩ := hC7.2.2 (by rw [HL18.out]; omega)
  subst eA7
  have hld18 := dgs_length b
  obtain ⟨add, eAd, _⟩ := HCd.out.2.2 (by omega)
  subst eAd
  have HC7 := Lib.hid hC7
  have HC8 := Lib.hid hC8
  have HLD := Lib.hid hld18
  have HGD := Lib.hid (dgs_get b)
  clear hx18 hxi hC7 hC8 hld18 hlen
  go_loopw [18, 20] (fun sv kv wr => ∃ c : Nat, c ≤ 18 ∧ kv = .int .i64 c ∧ sv = .string (ends2 L b c) ∧ Below wd.heap.size wd wr) (fun _ kv _ => 18 - (intOf kv).toNat)
  case atStart => exact ⟨0, by omega, rfl, rfl, Below.refl _ _⟩
  case round =>
    obtain ⟨c, hc, rfl, rfl, hBr⟩ := hrel
    have HBr := Lib.hid hBr
    clear hBr
    by_cases hlc : c < 18
    · have hx1 : decide ((c : Int) < 18) = true := decide_eq_true (by omega)
      have hdr := dgt_range b c
      have h8 := H8.out c hlc
      have hz := HEN.out c (by omega)
      have hlk := HLK.out c hlc
      have hkm := HKM.out c hlc
      have hsu := HSU.out c
      have q2 : wr.drew.cell? (add.add c) = some (.int .i64 (dgt b c)) := by
        obtain ⟨ad', he, hcc⟩ := Kd.at_int (Kd.C_below HCd.out HBr.out) (c : Int) (by omega) (by rw [HLD.out]; omega)
        injection he with he
        subst he
        rw [Int.toNat_natCast, HGD.out c hlc] at hcc
        exact hcc
      have q1 : wr.drew.cell? (ad7.add c) = some (.string (L.getD c ⟨#[]⟩)) := by
        have := Kd.foot_string (Kd.C_below HC7.out HBr.out) (c : Int) (by omega) (by rw [HL18.out]; omega)
        rw [rdOf, Int.toNat_natCast] at this
        exact this
      generalize L.getD c ⟨#[]⟩ = x at *
      generalize dgt b c = dv at *
      obtain ⟨y, hy⟩ : ∃ y, y = lnk x (15 - dv).toNat := ⟨_, rfl⟩
      have hy8 : y.size = 8 := by rw [hy]; exact lnk_size8 x h8 _
      rw [← hy] at hsu hkm
      generalize hE : ends2 L b c = E at hsu hz ⊢
      have HSU2 := Lib.hid hsu
      have HEE := Lib.hid hE
      have CL := Lib.hid (fun W => abugidaref04_Link.calls kl s i c dv x W hlk)
      have CM := Lib.hid (fun W => abugidaref04_Links.calls km x (15 - dv) y W hkm)
      have hx2 : ((x.size : Int) != 8) = false := by rw [h8]; rfl
      have r1 : (0 ≤ (c : Int)) = True := eq_true (by omega)
      have r2 : ((c : Int) < (L.length : Int)) = True := eq_true (by rw [HL18.out]; omega)
      have r3 : ((c : Int) < ((dgs b).length : Int)) = True := eq_true (by rw [HLD.out]; omega)
      have e15 : IntKind.i64.wrap (15 - dv) = 15 - dv := by rw [IntKind.wrap_i64]; omega
      have zz : (E.size + y.size ≤ 9223372036854775807) = True := eq_true (by omega)
      have zy : (9223372036854775807 < E.size + y.size) = False := eq_false (by omega)
      have hlt1 := World.block_lt_of_cell? _ _ q1
      have hlt2 := World.block_lt_of_cell? _ _ q2
      have HBd := Lib.hid (below_drew1 HBr.out)
      have hv := same_toList x
      clear hy hE hsu hlk hkm h8 hy8 hz hdr
      go_wp2
      refine start_ (n := 22) (S := fun w' => w'.cell? (ad7.add c) = some (.string x) ∧ w'.cell? (add.add c) = some (.int .i64 dv)) (ds := []) #[false, false, false, false, false, false, false, false, false, false, false, false, false, false, false, false, false, false, false, false, false, false] (by kernel_rfl) rfl rfl ⟨q1, q2⟩ (fun hHeld => ?_)
      generalize wr.drew = wd2 at HBd q1 q2 hlt1 hlt2 hHeld ⊢; have HX := Lib.hid (Below.refl wd2.heap.size wd2)
      refine pure_ (i := 0) (N := some 83) (v := ?_) (a' := ?_) #[true, false, false, false, false, false, false, false, false, false, false, false, false, false, false, false, false, false, false, false, false, false] rfl rfl (by kernel_rfl) (fun _ _ _ h => h) (Or.inl ⟨by rfl, ?_⟩) ?_ ?_
      rotate_left
      · intro w'
        go_simp
        with_reducible rfl
      rotate_left
      · simp only [Act.put, List.setIfInBounds_toArray, List.set_cons_zero, List.set_cons_succ, i64_w, i32_w]
        rfl
      refine pure_ (i := 1) (N := some 84) (v := ?_) (a' := ?_) #[true, true, false, false, false, false, false, false, false, false, false, false, false, false, false, false, false, false, false, false, false, false] rfl rfl (by kernel_rfl) (fun _ _ _ h => h) (Or.inl ⟨by rfl, ?_⟩) ?_ ?_
      rotate_left
      · intro w'
        go_simp
        with_reducible rfl
      rotate_left
      · simp only [Act.put, List.setIfInBounds_toArray, List.set_cons_zero, List.set_cons_succ, i64_w, i32_w]
        rfl
      refine pure_ (i := 2) (N := some 85) (v := ?_) (a' := ?_) #[true, true, true, false, false, false, false, false, false, false, false, false, false, false, false, false, false, false, false, false, false, false] rfl rfl (by kernel_rfl) (fun _ _ _ h => h) (Or.inl ⟨by rfl, ?_⟩) ?_ ?_
      rotate_left
      · intro w'
        go_simp
        with_reducible rfl
      rotate_left
      · simp only [Act.put, List.setIfInBounds_toArray, List.set_cons_zero, List.set_cons_succ, i64_w, i32_w]
        rfl
      refine take_ (i := 3) (N := some 86) (v := ?_) (a' := ?_) #[true, true, true, true, false, false, false, false, false, false, false, false, false, false, false, false, false, false, false, false, false, false] rfl rfl (by kernel_rfl) (fun _ _ _ h => h) (Or.inl ⟨by rfl, ?_⟩) hHeld ?_ ?_
      rotate_left
      · rintro w' ⟨s0, s1⟩
        go_simp
        with_reducible rfl
      rotate_left
      · simp only [Act.put, List.setIfInBounds_toArray, List.set_cons_zero, List.set_cons_succ, i64_w, i32_w]
        rfl
      refine pure_ (i := 4) (N := some 87) (v := ?_) (a' := ?_) #[true, true, true, true, true, false, false, false, false, false, false, false, false, false, false, false, false, false, false, false, false, false] rfl rfl (by kernel_rfl) (fun _ _ _ h => h) (Or.inl ⟨by rfl, ?_⟩) ?_ ?_
      rotate_left
      · intro w'
        go_simp
        with_reducible rfl
      rotate_left
      · simp only [Act.put, List.setIfInBounds_toArray, List.set_cons_zero, List.set_cons_succ, i64_w, i32_w]
        rfl
      refine pure_ (i := 5) (N := some 88) (v := ?_) (a' := ?_) #[true, true, true, true, true, true, false, false, false, false, false, false, false, false, false, false, false, false, false, false, false, false] rfl rfl (by kernel_rfl) (fun _ _ _ h => h) (Or.inl ⟨by rfl, ?_⟩) ?_ ?_
      rotate_left
      · intro w'
        go_simp
        with_reducible rfl
      rotate_left
      · simp only [Act.put, List.setIfInBounds_toArray, List.set_cons_zero, List.set_cons_succ, i64_w, i32_w]
        rfl
      refine pure_ (i := 6) (N := some 89) (v := ?_) (a' := ?_) #[true, true, true, true, true, true, true, false, false, false, false, false, false, false, false, false, false, false, false, false, false, false] rfl rfl (by kernel_rfl) (fun _ _ _ h => h) (Or.inl ⟨by rfl, ?_⟩) ?_ ?_
      rotate_left
      · intro w'
        go_simp
        with_reducible rfl
      rotate_left
      · simp only [Act.put, List.setIfInBounds_toArray, List.set_cons_zero, List.set_cons_succ, i64_w, i32_w]
        rfl
      refine pure_ (i := 7) (N := some 90) (v := ?_) (a' := ?_) #[true, true, true, true, true, true, true, true, false, false, false, false, false, false, false, false, false, false, false, false, false, false] rfl rfl (by kernel_rfl) (fun _ _ _ h => h) (Or.inl ⟨by rfl, ?_⟩) ?_ ?_
      rotate_left
      · intro w'
        go_simp
        with_reducible rfl
      rotate_left
      · simp only [Act.put, List.setIfInBounds_toArray, List.set_cons_zero, List.set_cons_succ, i64_w, i32_w]
        rfl
      refine pure_ (i := 8) (N := some 91) (v := ?_) (a' := ?_) #[true, true, true, true, true, true, true, true, true, false, false, false, false, false, false, false, false, false, false, false, false, false] rfl rfl (by kernel_rfl) (fun _ _ _ h => h) (Or.inl ⟨by rfl, ?_⟩) ?_ ?_
      rotate_left
      · intro w'
        go_simp
        with_reducible rfl
      rotate_left
      · simp only [Act.put, List.setIfInBounds_toArray, List.set_cons_zero, List.set_cons_succ, i64_w, i32_w]
        rfl
      refine pure_ (i := 9) (N := some 92) (v := ?_) (a' := ?_) #[true, true, true, true, true, true, true, true, true, true, false, false, false, false, false, false, false, false, false, false, false, false] rfl rfl (by kernel_rfl) (fun _ _ _ h => h) (Or.inl ⟨by rfl, ?_⟩) ?_ ?_
      rotate_left
      · intro w'
        go_simp
        with_reducible rfl
      rotate_left
      · simp only [Act.put, List.setIfInBounds_toArray, List.set_cons_zero, List.set_cons_succ, i64_w, i32_w]
        rfl
      refine pure_ (i := 11) (N := some 94) (v := ?_) (a' := ?_) #[true, true, true, true, true, true, true, true, true, true, false, true, false, false, false, false, false, false, false, false, false, false] rfl rfl (by kernel_rfl) (fun _ _ _ h => h) (Or.inl ⟨by rfl, ?_⟩) ?_ ?_
      rotate_left
      · intro w'
        go_simp
        with_reducible rfl
      rotate_left
      · simp only [Act.put, List.setIfInBounds_toArray, List.set_cons_zero, List.set_cons_succ, i64_w, i32_w]
        rfl
      refine pure_ (i := 13) (N := some 96) (v := ?_) (a' := ?_) #[true, true, true, true, true, true, true, true, true, true, false, true, false, true, false, false, false, false, false, false, false, false] rfl rfl (by kernel_rfl) (fun _ _ _ h => h) (Or.inl ⟨by rfl, ?_⟩) ?_ ?_
      rotate_left
      · intro w'
        go_simp
        with_reducible rfl
      rotate_left
      · simp only [Act.put, List.setIfInBounds_toArray, List.set_cons_zero, List.set_cons_succ, i64_w, i32_w]
        rfl
      refine pure_ (i := 14) (N := some 97) (v := ?_) (a' := ?_) #[true, true, true, true, true, true, true, true, true, true, false, true, false, true, true, false, false, false, false, false, false, false] rfl rfl (by kernel_rfl) (fun _ _ _ h => h) (Or.inl ⟨by rfl, ?_⟩) ?_ ?_
      rotate_left
      · intro w'
        go_simp
        with_reducible rfl
      rotate_left
      · simp only [Act.put, List.setIfInBounds_toArray, List.set_cons_zero, List.set_cons_succ, i64_w, i32_w]
        rfl
      refine pure_ (i := 15) (N := some 98) (v := ?_) (a' := ?_) #[true, true, true, true, true, true, true, true, true, true, false, true, false, true, true, true, false, false, false, false, false, false] rfl rfl (by kernel_rfl) (fun _ _ _ h => h) (Or.inl ⟨by rfl, ?_⟩) ?_ ?_
      rotate_left
      · intro w'
        go_simp
        with_reducible rfl
      rotate_left
      · simp only [Act.put, List.setIfInBounds_toArray, List.set_cons_zero, List.set_cons_succ, i64_w, i32_w]
        rfl
      refine pure_ (i := 16) (N := some 99) (v := ?_) (a' := ?_) #[true, true, true, true, true, true, true, true, true, true, false, true, false, true, true, true, true, false, false, false, false, false] rfl rfl (by kernel_rfl) (fun _ _ _ h => h) (Or.inl ⟨by rfl, ?_⟩) ?_ ?_
      rotate_left
      · intro w'
        go_simp
        with_reducible rfl
      rotate_left
      · simp only [Act.put, List.setIfInBounds_toArray, List.set_cons_zero, List.set_cons_succ, i64_w, i32_w]
        rfl
      refine pure_ (i := 17) (N := some 100) (v := ?_) (a' := ?_) #[true, true, true, true, true, true, true, true, true, true, false, true, false, true, true, true, true, true, false, false, false, false] rfl rfl (by kernel_rfl) (fun _ _ _ h => h) (Or.inl ⟨by rfl, ?_⟩) ?_ ?_
      rotate_left
      · intro w'
        go_simp
        with_reducible rfl
      rotate_left
      · simp only [Act.put, List.setIfInBounds_toArray, List.set_cons_zero, List.set_cons_succ, i64_w, i32_w]
        rfl
      refine take_ (i := 10) (N := some 93) (v := ?_) (a' := ?_) #[true, true, true, true, true, true, true, true, true, true, true, true, false, true, true, true, true, true, false, false, false, false] rfl rfl (by kernel_rfl) (fun _ _ _ h => h) (Or.inl ⟨by rfl, ?_⟩) hHeld ?_ ?_
      rotate_left
      · rintro w' ⟨s0, s1⟩
        go_simp
        with_reducible rfl
      rotate_left
      · simp only [Act.put, List.setIfInBounds_toArray, List.set_cons_zero, List.set_cons_succ, i64_w, i32_w]
        rfl
      refine take_ (i := 18) (N := some 101) (v := ?_) (a' := ?_) #[true, true, true, true, true, true, true, true, true, true, true, true, false, true, true, true, true, true, true, false, false, false] rfl rfl (by kernel_rfl) (fun _ _ _ h => h) (Or.inl ⟨by rfl, ?_⟩) hHeld ?_ ?_
      rotate_left
      · rintro w' ⟨s0, s1⟩
        go_simp
        with_reducible rfl
      rotate_left
      · simp only [Act.put, List.setIfInBounds_toArray, List.set_cons_zero, List.set_cons_succ, i64_w, i32_w]
        rfl
      refine one_ (i := 12) (N := some 95) #[true, true, true, true, true, true, true, true, true, true, true, true, true, true, true, true, true, true, true, false, false, false] rfl rfl (by kernel_rfl) (by decide) (fun K hK => ?_)
      refine goes_ Try.func11 (by kernel_rfl) rfl #[.string a0] (by rfl) rfl rfl (by simp only [List.map_toArray, List.map_cons, List.map_nil]; rfl) ?_
      with_reducible refine (HSH.out _).mono ?_
      rintro e wx ⟨rfl, hbx⟩
      refine ⟨_, rfl, ?_⟩
      have n_ := Lib.hid (HX.out.trans (hbx.mono HX.out.size)); clear HX; have HX := n_; clear n_
      refine hK.out _ _ ⟨(HX.out.cell hlt1).trans q1, (HX.out.cell hlt2).trans q2⟩ (fun hHeld => ?_)
      clear hK K
      refine norm_ (a' := ?_) ?_ ?_
      rotate_left
      · show Act.put _ (some 95) _ = _
        simp only [Act.put, List.setIfInBounds_toArray, List.set_cons_zero, List.set_cons_succ, i64_w, i32_w]
        rfl
      refine one_ (i := 19) (N := some 102) #[true, true, true, true, true, true, true, true, true, true, true, true, true, true, true, true, true, true, true, true, false, false] rfl rfl (by kernel_rfl) (by decide) (fun K hK => ?_)
      refine goes_ Try.func25 (by kernel_rfl) rfl #[.string s, .int .i64 i, .int .i64 c, .int .i64 dv] (by rfl) rfl rfl (by simp only [List.map_toArray, List.map_cons, List.map_nil]; rfl) ?_
      with_reducible refine (CL.out _).mono ?_
      rintro e wx ⟨rfl, hbx⟩
      refine ⟨_, rfl, ?_⟩
      have n_ := Lib.hid (HX.out.trans (hbx.mono HX.out.size)); clear HX; have HX := n_; clear n_
      refine hK.out _ _ ⟨(HX.out.cell hlt1).trans q1, (HX.out.cell hlt2).trans q2⟩ (fun hHeld => ?_)
      clear hK K
      refine norm_ (a' := ?_) ?_ ?_
      rotate_left
      · show Act.put _ (some 102) _ = _
        simp only [Act.put, List.setIfInBounds_toArray, List.set_cons_zero, List.set_cons_succ, i64_w, i32_w]
        rfl
      refine pure_ (i := 20) (N := some 103) (v := ?_) (a' := ?_) #[true, true, true, true, true, true, true, true, true, true, true, true, true, true, true, true, true, true, true, true, true, false] rfl rfl (by kernel_rfl) (fun _ _ _ h => h) (Or.inl ⟨by rfl, ?_⟩) ?_ ?_
      rotate_left
      · intro w'
        go_simp
        with_reducible rfl
      rotate_left
      · simp only [Act.put, List.setIfInBounds_toArray, List.set_cons_zero, List.set_cons_succ, i64_w, i32_w]
        rfl
      refine pure_ (i := 21) (N := some 104) (v := ?_) (a' := ?_) #[true, true, true, true, true, true, true, true, true, true, true, true, true, true, true, true, true, true, true, true, true, true] rfl rfl (by kernel_rfl) (fun _ _ _ h => h) (Or.inl ⟨by rfl, ?_⟩) ?_ ?_
      rotate_left
      · intro w'
        go_simp
        with_reducible rfl
      rotate_left
      · simp only [Act.put, List.setIfInBounds_toArray, List.set_cons_zero, List.set_cons_succ, i64_w, i32_w]
        rfl
      refine done_ (by kernel_rfl) ?_
      go_wp2
      have p1 : wx.drew.cell? (ad7.add c) = some (.string x) := (HX.out.cell hlt1).trans q1
      have p2 : wx.drew.cell? (add.add c) = some (.int .i64 dv) := (HX.out.cell hlt2).trans q2
      have hlt3 := World.block_lt_of_cell? _ _ p1
      have hlt4 := World.block_lt_of_cell? _ _ p2
      have HBe := Lib.hid (below_drew1 (HBd.out.trans (HX.out.mono HBd.out.size)))
      clear hHeld q1 q2 hlt1 hlt2 HX HBd
      refine start_ (n := 13) (S := fun w' => w'.cell? (ad7.add c) = some (.string x) ∧ w'.cell? (add.add c) = some (.int .i64 dv)) (ds := []) #[false, false, false, false, false, false, false, false, false, false, false, false, false] (by kernel_rfl) rfl rfl ⟨p1, p2⟩ (fun hHeld => ?_)
      generalize wx.drew = we at HBe p1 p2 hlt3 hlt4 hHeld ⊢; have HX := Lib.hid (Below.refl we.heap.size we)
      refine pure_ (i := 0) (N := some 105) (v := ?_) (a' := ?_) #[true, false, false, false, false, false, false, false, false, false, false, false, false] rfl rfl (by kernel_rfl) (fun _ _ _ h => h) (Or.inl ⟨by rfl, ?_⟩) ?_ ?_
      rotate_left
      · intro w'
        go_simp
        with_reducible rfl
      rotate_left
      · simp only [Act.put, List.setIfInBounds_toArray, List.set_cons_zero, List.set_cons_succ, i64_w, i32_w]
        rfl
      refine pure_ (i := 1) (N := some 106) (v := ?_) (a' := ?_) #[true, true, false, false, false, false, false, false, false, false, false, false, false] rfl rfl (by kernel_rfl) (fun _ _ _ h => h) (Or.inl ⟨by rfl, ?_⟩) ?_ ?_
      rotate_left
      · intro w'
        go_simp
        with_reducible rfl
      rotate_left
      · simp only [Act.put, List.setIfInBounds_toArray, List.set_cons_zero, List.set_cons_succ, i64_w, i32_w]
        rfl
      refine pure_ (i := 2) (N := some 107) (v := ?_) (a' := ?_) #[true, true, true, false, false, false, false, false, false, false, false, false, false] rfl rfl (by kernel_rfl) (fun _ _ _ h => h) (Or.inl ⟨by rfl, ?_⟩) ?_ ?_
      rotate_left
      · intro w'
        go_simp
        with_reducible rfl
      rotate_left
      · simp only [Act.put, List.setIfInBounds_toArray, List.set_cons_zero, List.set_cons_succ, i64_w, i32_w]
        rfl
      refine pure_ (i := 3) (N := some 108) (v := ?_) (a' := ?_) #[true, true, true, true, false, false, false, false, false, false, false, false, false] rfl rfl (by kernel_rfl) (fun _ _ _ h => h) (Or.inl ⟨by rfl, ?_⟩) ?_ ?_
      rotate_left
      · intro w'
        go_simp
        with_reducible rfl
      rotate_left
      · simp only [Act.put, List.setIfInBounds_toArray, List.set_cons_zero, List.set_cons_succ, i64_w, i32_w]
        rfl
      refine pure_ (i := 5) (N := some 110) (v := ?_) (a' := ?_) #[true, true, true, true, false, true, false, false, false, false, false, false, false] rfl rfl (by kernel_rfl) (fun _ _ _ h => h) (Or.inl ⟨by rfl, ?_⟩) ?_ ?_
      rotate_left
      · intro w'
        go_simp
        with_reducible rfl
      rotate_left
      · simp only [Act.put, List.setIfInBounds_toArray, List.set_cons_zero, List.set_cons_succ, i64_w, i32_w]
        rfl
      refine pure_ (i := 6) (N := some 111) (v := ?_) (a' := ?_) #[true, true, true, true, false, true, true, false, false, false, false, false, false] rfl rfl (by kernel_rfl) (fun _ _ _ h => h) (Or.inl ⟨by rfl, ?_⟩) ?_ ?_
      rotate_left
      · intro w'
        go_simp
        with_reducible rfl
      rotate_left
      · simp only [Act.put, List.setIfInBounds_toArray, List.set_cons_zero, List.set_cons_succ, i64_w, i32_w]
        rfl
      refine pure_ (i := 7) (N := some 112) (v := ?_) (a' := ?_) #[true, true, true, true, false, true, true, true, false, false, false, false, false] rfl rfl (by kernel_rfl) (fun _ _ _ h => h) (Or.inl ⟨by rfl, ?_⟩) ?_ ?_
      rotate_left
      · intro w'
        go_simp
        with_reducible rfl
      rotate_left
      · simp only [Act.put, List.setIfInBounds_toArray, List.set_cons_zero, List.set_cons_succ, i64_w, i32_w]
        rfl
      refine take_ (i := 4) (N := some 109) (v := ?_) (a' := ?_) #[true, true, true, true, true, true, true, true, false, false, false, false, false] rfl rfl (by kernel_rfl) (fun _ _ _ h => h) (Or.inl ⟨by rfl, ?_⟩) hHeld ?_ ?_
      rotate_left
      · rintro w' ⟨s0, s1⟩
        go_simp
        with_reducible rfl
      rotate_left
      · simp only [Act.put, List.setIfInBounds_toArray, List.set_cons_zero, List.set_cons_succ, i64_w, i32_w]
        rfl
      refine take_ (i := 8) (N := some 113) (v := ?_) (a' := ?_) #[true, true, true, true, true, true, true, true, true, false, false, false, false] rfl rfl (by kernel_rfl) (fun _ _ _ h => h) (Or.inl ⟨by rfl, ?_⟩) hHeld ?_ ?_
      rotate_left
      · rintro w' ⟨s0, s1⟩
        go_simp
        with_reducible rfl
      rotate_left
      · simp only [Act.put, List.setIfInBounds_toArray, List.set_cons_zero, List.set_cons_succ, i64_w, i32_w]
        rfl
      refine pure_ (i := 9) (N := some 114) (v := ?_) (a' := ?_) #[true, true, true, true, true, true, true, true, true, true, false, false, false] rfl rfl (by kernel_rfl) (fun _ _ _ h => h) (Or.inl ⟨by rfl, ?_⟩) ?_ ?_
      rotate_left
      · intro w'
        go_simp
        with_reducible rfl
      rotate_left
      · simp only [Act.put, List.setIfInBounds_toArray, List.set_cons_zero, List.set_cons_succ, i64_w, i32_w]
        rfl
      refine one_ (i := 10) (N := some 115) #[true, true, true, true, true, true, true, true, true, true, true, false, false] rfl rfl (by kernel_rfl) (by decide) (fun K hK => ?_)
      refine goes_ Try.func26 (by kernel_rfl) rfl #[.string x, .int .i64 (15 - dv)] (by rfl) rfl rfl (by simp only [List.map_toArray, List.map_cons, List.map_nil]; rfl) ?_
      with_reducible refine (CM.out _).mono ?_
      rintro e wy ⟨rfl, hbx⟩
      refine ⟨_, rfl, ?_⟩
      have n_ := Lib.hid (HX.out.trans (hbx.mono HX.out.size)); clear HX; have HX := n_; clear n_
      refine hK.out _ _ ⟨(HX.out.cell hlt3).trans p1, (HX.out.cell hlt4).trans p2⟩ (fun hHeld => ?_)
      clear hK K
      refine norm_ (a' := ?_) ?_ ?_
      rotate_left
      · show Act.put _ (some 115) _ = _
        simp only [Act.put, List.setIfInBounds_toArray, List.set_cons_zero, List.set_cons_succ, i64_w, i32_w]
        rfl
      refine pure_ (i := 11) (N := some 116) (v := ?_) (a' := ?_) #[true, true, true, true, true, true, true, true, true, true, true, true, false] rfl rfl (by kernel_rfl) (fun _ _ _ h => h) (Or.inl ⟨by rfl, ?_⟩) ?_ ?_
      rotate_left
      · intro w'
        go_simp
        with_reducible rfl
      rotate_left
      · simp only [Act.put, List.setIfInBounds_toArray, List.set_cons_zero, List.set_cons_succ, i64_w, i32_w]
        rfl
      refine pure_ (i := 12) (N := some 18) (v := ?_) (a' := ?_) #[true, true, true, true, true, true, true, true, true, true, true, true, true] rfl rfl (by kernel_rfl) (fun _ _ _ h => h) (Or.inl ⟨by rfl, ?_⟩) ?_ ?_
      rotate_left
      · intro w'
        go_simp
        with_reducible rfl
      rotate_left
      · simp only [Act.put, List.setIfInBounds_toArray, List.set_cons_zero, List.set_cons_succ, i64_w, i32_w]
        rfl
      refine done_ (by kernel_rfl) ?_
      unfold Exit.inBlock
      go_wp2
      go_roundw
      case rel => exact ⟨c + 1, by omega, by go_num, by rw [HSU2.out], HBe.out.trans (HX.out.mono HBe.out.size)⟩
      case measure => simp [intOf]; omega
    · obtain rfl : c = 18 := by omega
      have hx1 : decide (((18 : Nat) : Int) < 18) = false := by decide
      have HZ := Lib.hid (HBd.out.trans (HBr.out.mono HBd.out.size))
      have HC8r := Lib.hid (Kd.C_below HC8.out HBr.out)
      go_wp2_with (first
        | ((go_at_call 28); (with_reducible refine (abugidaref03_Of.calls ko (ends2 L b 18) _ _ HKO.out).mono ?_); rintro e wf ⟨rfl, hbf⟩; have HF := Lib.hid (HZ.out.trans (hbf.mono HZ.out.size)); have HC8f := Lib.hid (Kd.C_below HC8r.out hbf); clear hbf)
        | ((go_at_call 27); (with_reducible refine (abugidaref03_Verify.calls kv pub (OfB (ends2 L b 18)) i A8 c8 P true _ HC8f.out hl8 HKV.out).mono ?_); rintro e wg ⟨rfl, hbg⟩; have HG := Lib.hid (HF.out.trans (hbg.mono HF.out.size)); clear hbg))
      go_ret
      exact ⟨rfl, HG.out⟩

end Go.Proofs.Ytoolionhheiihaa.Sg
