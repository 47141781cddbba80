/- The examples of the chapter: abugidalaw04.sanity. -/
import Derived.Test.YtoolionhheiihaaMgT
import Derived.StillTailTactics
import Derived.Deep.RegionHeld3
set_option linter.unusedVariables false
set_option linter.unusedSimpArgs false
namespace Go.Proofs.Ytoolionhheiihaa.Sg
open Go.RowKit Go.Proofs.YtoolionhheiihaaW.PrintWords Go.Proofs.YtoolionhheiihaaW.PrintLast Go.Proofs.YtoolionhheiihaaW.PrintMore Go.Proofs.Ytoolionhheiihaa.Dg Go.Proofs.Ytoolionhheiihaa.Gv Go.Proofs.Ytoolionhheiihaa.Pb Go.Proofs.Ytoolionhheiihaa.Gw Go.Proofs.Ytoolionhheiihaa.Pure
/-- The digits of the example. -/
def exD : List Int := [0, 0, 0, 0, 0, 0, 0, 7, 0, 0, 0, 0, 0, 0, 0, 11, 13, 14]
def exA : Array Value := #[.int .i64 0, .int .i64 0, .int .i64 0, .int .i64 0, .int .i64 0, .int .i64 0, .int .i64 0, .int .i64 7, .int .i64 0, .int .i64 0, .int .i64 0, .int .i64 0, .int .i64 0, .int .i64 0, .int .i64 0, .int .i64 11, .int .i64 13, .int .i64 14]
theorem exA_get : ∀ n : Nat, n < 18 → exA.toList[n]? = some (.int .i64 (rd exD n))
  | 0, _ => rfl
  | 1, _ => rfl
  | 2, _ => rfl
  | 3, _ => rfl
  | 4, _ => rfl
  | 5, _ => rfl
  | 6, _ => rfl
  | 7, _ => rfl
  | 8, _ => rfl
  | 9, _ => rfl
  | 10, _ => rfl
  | 11, _ => rfl
  | 12, _ => rfl
  | 13, _ => rfl
  | 14, _ => rfl
  | 15, _ => rfl
  | 16, _ => rfl
  | 17, _ => rfl
  | n + 18, h => absurd h (by omega)
theorem digits_exD (k : Nat) (h : k < 18) : dgt (OfB ⟨#[]⟩) k = rd exD k := digits_e k h
theorem Pub_s (w : World) : Calls Try.prog 13 #[.string ⟨#[115]⟩, .int .i64 4] w fun e w' => e = .returned (.tuple #[.string (PubB sS 4), .int .i64 0]) ∧ Below w.heap.size w w' := Public_yes sS (by decide) 4 w (by omega) (by omega)
theorem Pub_t (w : World) : Calls Try.prog 13 #[.string ⟨#[116]⟩, .int .i64 4] w fun e w' => e = .returned (.tuple #[.string (PubB sT 4), .int .i64 0]) ∧ Below w.heap.size w w' := Public_yes sT (by decide) 4 w (by omega) (by omega)
theorem Sign_s (i : Nat) (h : i < 4) (w : World) : Calls Try.prog 15 #[.string ⟨#[115]⟩, .int .i64 4, .int .i64 i, .string ⟨#[109]⟩] w fun e w' => e = .returned (.tuple #[.string (SigB sS 4 i sM), .int .i64 0]) ∧ Below w.heap.size w w' := Sign_yes sS (by decide) 4 i sM (by decide) w (by omega) (by omega) h
theorem Sign_e (w : World) : Calls Try.prog 15 #[.string ⟨#[115]⟩, .int .i64 1, .int .i64 0, .string ⟨#[]⟩] w fun e w' => e = .returned (.tuple #[.string (SigB sS 1 0 ⟨#[]⟩), .int .i64 0]) ∧ Below w.heap.size w w' := Sign_yes sS (by decide) 1 0 ⟨#[]⟩ (by decide) w (by omega) (by omega) (by omega)
theorem append_nil (a : ByteArray) : a ++ ⟨#[]⟩ = a := by
  apply ByteArray.ext
  simp
theorem Chk_right (i : Nat) (h : i < 4) (w : World) : Calls Try.prog 18 #[.string (PubB sS 4), .string ⟨#[109]⟩, .string (SigB sS 4 i sM)] w fun e w' => e = .returned (.bool true) ∧ Below w.heap.size w w' := by
  have := Check_sig (PubB sS 4) sM sS sM ⟨#[]⟩ 4 i (by omega) (by omega) h (by decide) (by decide) w
  rwa [append_nil, chk_own sS 4 i (by omega) h, decide_eq_true rfl] at this
theorem Chk_other (i : Nat) (h : i = 0 ∨ i = 3) (w : World) : Calls Try.prog 18 #[.string (PubB sS 4), .string ⟨#[110]⟩, .string (SigB sS 4 i sM)] w fun e w' => e = .returned (.bool false) ∧ Below w.heap.size w w' := by
  have := Check_sig (PubB sS 4) sW sS sM ⟨#[]⟩ 4 i (by omega) (by omega) (by omega) (by decide) (by decide) w
  have e : chkF (PubB sS 4) sW (i : Int) (sgs sS i (OfB sM) 18) (ProofF (lvs sS 4) (i : Int)) ⟨#[]⟩ false = false := by
    rcases h with rfl | rfl
    · exact chk_other0
    · exact chk_other3
  rwa [append_nil, e] at this
theorem Chk_pub (i : Nat) (h : i < 4) (w : World) : Calls Try.prog 18 #[.string (PubB sT 4), .string ⟨#[109]⟩, .string (SigB sS 4 i sM)] w fun e w' => e = .returned (.bool false) ∧ Below w.heap.size w w' := by
  have := Check_sig (PubB sT 4) sM sS sM ⟨#[]⟩ 4 i (by omega) (by omega) h (by decide) (by decide) w
  rwa [append_nil, chk_own sS 4 i (by omega) h, decide_eq_false (fun h => pub_ne h.symm)] at this
theorem Chk_more (i : Nat) (h : i < 4) (w : World) : Calls Try.prog 18 #[.string (PubB sS 4), .string ⟨#[109]⟩, .string (SigB sS 4 i sM ++ ⟨#[0]⟩)] w fun e w' => e = .returned (.bool false) ∧ Below w.heap.size w w' := by
  have := Check_sig (PubB sS 4) sM sS sM ⟨#[0]⟩ 4 i (by omega) (by omega) h (by decide) (by decide) w
  rwa [chk_more _ _ _ _ _ _ (by decide)] at this
theorem Chk_cut (i : Nat) (h : i < 4) (w : World) : Calls Try.prog 18 #[.string (PubB sS 4), .string ⟨#[109]⟩, .string ((SigB sS 4 i sM).extract 1 (SigB sS 4 i sM).size)] w fun e w' => e = .returned (.bool false) ∧ Below w.heap.size w w' :=
  Check_cut (PubB sS 4) sM sS sM 4 i (by omega) (by omega) h (by decide) w
theorem SigB_size (seed : ByteArray) (n i : Nat) (m : ByteArray) (h1 : 1 ≤ n) (hn : n ≤ 16) (hi : i < n) : 1 ≤ (SigB seed n i m).size ∧ (SigB seed n i m).size ≤ 1000 := by
  have hP := ProofF_lvs seed n h1 hn i
  have h0 := IntB_pos (i : Int)
  have h2 := IntB_small (i : Int) (by omega) (by omega)
  have h3 := TextsB_size (sgs seed i (OfB m) 18) (by rw [sgs_length]; omega) (fun s h => Nat.le_of_eq (sgs_size _ _ _ _ s h))
  have h4 := TextsB_size (ProofF (lvs seed n) i) (by omega) hP.2
  rw [sgs_length] at h3
  rw [SigB]
  simp only [ByteArray.size_append]
  omega
theorem len_strs (A : Option Addr) (n c : Nat) (W : World) : (Builtin.len_ #[42] 3 #[Value.slice A n c]).run Try.prog W = .ok (.int .i64 n) W := by
  simp only [Builtin.len_]
  go_simp
set_option maxRecDepth 100000 in
set_option maxHeartbeats 4000000 in
theorem sanity_any (w : World) : Calls Try.prog 10 #[] w fun e w' => e = .returned (.bool true) ∧ Below w.heap.size w w' := by
  have hpq : PubB sS 4 ≠ PubB sT 4 := pub_ne
  obtain ⟨p, hp⟩ : ∃ p, p = PubB sS 4 := ⟨_, rfl⟩
  obtain ⟨q, hq⟩ : ∃ q, q = PubB sT 4 := ⟨_, rfl⟩
  rw [← hp, ← hq] at hpq
  have hpb : (p.toList == q.toList) = false := by
    rw [beq_eq_false_iff_ne]
    exact fun h => hpq (PureD.bytes_ext h)
  have HPB := Lib.hid hpb
  have HPQ := Lib.hid hpq
  have HP := Lib.hid hp
  have HQ := Lib.hid hq
  clear hp hq hpq
  go_enter Try.func10, Try.ntmps10
  go_wp2_with (first
    | (go_at_call 13; (first
      | (with_reducible refine (Public_no ⟨#[115]⟩ 0 w (by omega)).mono ?_; rintro e w1 ⟨rfl, hb1⟩; have HB1 := Lib.hid hb1; clear hb1)
      | (with_reducible refine (Public_no ⟨#[115]⟩ 17 w1 (by omega)).mono ?_; rintro e w2 ⟨rfl, hb2⟩; have HB2 := Lib.hid (HB1.out.trans (hb2.mono HB1.out.size)); clear hb2)
      | (with_reducible refine (Pub_s _).mono ?_; rw [← HP.out]; rintro e w4 ⟨rfl, hb4⟩; have HB4 := Lib.hid (HB3.out.trans (hb4.mono HB3.out.size)); clear hb4)
      | (with_reducible refine (Pub_t _).mono ?_; rw [← HQ.out]; rintro e w5 ⟨rfl, hb5⟩; have HB5 := Lib.hid (HB4.out.trans (hb5.mono HB4.out.size)); clear hb5)))
    | (go_at_call 15; with_reducible refine (Sign_no ⟨#[115]⟩ 4 4 ⟨#[109]⟩ w2 (by omega)).mono ?_; rintro e w3 ⟨rfl, hb3⟩; have HB3 := Lib.hid (HB2.out.trans (hb3.mono HB2.out.size)); clear hb3))
  go_loopw [11, 12, 13] (fun iv _ _ wr => ∃ i : Nat, (i = 0 ∨ i = 3 ∨ i = 6) ∧ iv = .int .i64 i ∧ Below w.heap.size w wr) (fun iv _ _ _ => 6 - (intOf iv).toNat)
  case atStart => exact ⟨0, .inl rfl, rfl, HB5.out⟩
  case round =>
    obtain ⟨i, hi, rfl, hB⟩ := hrel
    have HB := Lib.hid hB
    clear hB
    by_cases hlt : i < 4
    · have h03 : i = 0 ∨ i = 3 := by omega
      have hz := SigB_size sS 4 i sM (by omega) (by omega) hlt
      obtain ⟨sg, hsg⟩ : ∃ sg, sg = SigB sS 4 i sM := ⟨_, rfl⟩
      have C0 := Lib.hid (fun W => Sign_s i hlt W)
      have C1 := Lib.hid (fun W => Chk_right i hlt W)
      have C2 := Lib.hid (fun W => Chk_other i h03 W)
      have C3 := Lib.hid (fun W => Chk_pub i hlt W)
      have C4 := Lib.hid (fun W => Chk_more i hlt W)
      have C5 := Lib.hid (fun W => Chk_cut i hlt W)
      rw [← hsg] at hz C0 C1 C2 C3 C4 C5
      rw [← HP.out] at C1 C2 C4 C5
      rw [← HQ.out] at C3
      obtain ⟨z1, z2⟩ := hz
      have hx1 : decide ((i : Int) < 4) = true := decide_eq_true (by omega)
      have hx2 : ((sg.size : Int) == 0) = false := beq_eq_false_iff_ne.2 (by omega)
      have z3 : (sg.size + 1 ≤ 9223372036854775807) = True := eq_true (by omega)
      have z4 : (9223372036854775807 < sg.size + 1) = False := eq_false (by omega)
      have z5 : (1 ≤ (sg.size : Int)) = True := eq_true (by omega)
      have z6 : (sg.size + (⟨#[0]⟩ : ByteArray).size ≤ 9223372036854775807) = True := eq_true (by show sg.size + 1 ≤ 9223372036854775807; omega)
      clear hsg
      go_wp2_with (first
        | (go_at_call 15; with_reducible refine (C0.out _).mono ?_; rintro e w6 ⟨rfl, hb6⟩; have HX := Lib.hid (HB.out.trans (hb6.mono HB.out.size)); clear hb6)
        | (go_at_call 18; (first
          | (with_reducible refine (C1.out _).mono ?_)
          | (with_reducible refine (C2.out _).mono ?_)
          | (with_reducible refine (C3.out _).mono ?_)
          | (with_reducible refine (C4.out _).mono ?_)
          | (with_reducible refine (C5.out _).mono ?_)); rintro e wx ⟨rfl, hbx⟩; have n_ := Lib.hid (HX.out.trans (hbx.mono HX.out.size)); clear HX hbx; have HX := n_; clear n_))
      go_roundw
      case rel => exact ⟨i + 3, by omega, by go_num, HX.out⟩
      case measure => simp [intOf]; omega
    · obtain rfl : i = 6 := by omega
      have hx1 : decide (((6 : Nat) : Int) < 4) = false := by decide
      have hL18 := sgs_length sS 0 (OfB ⟨#[]⟩) 18
      have hL8 := sgs_size sS 0 (OfB ⟨#[]⟩) 18
      obtain ⟨e1, e2, e3⟩ := sig_read 0 (sgs sS 0 (OfB ⟨#[]⟩) 18) (ProofF (lvs sS 1) 0) ⟨#[]⟩ (by omega) (by omega) (by rw [proof10]; simp) (fun s h => by rw [hL8 s h]; omega) (fun s h => by rw [proof10] at h; simp at h) (by decide)
      obtain ⟨k, k1, k2, k3⟩ := Ev.three e1 e2 e3
      clear e1 e2 e3
      rw [proof10] at k1 k2 k3
      simp only [append_nil] at k1 k2 k3
      have kS : (IntB ((0 : Nat) : Int) ++ TextsB (sgs sS 0 (OfB ⟨#[]⟩) 18)) ++ TextsB [] = SigB sS 1 0 ⟨#[]⟩ := by
        rw [SigB, show (((0 : Nat) : Int)) = 0 from rfl, proof10]
      rw [kS] at k1
      obtain ⟨sg, hsg⟩ : ∃ sg, sg = SigB sS 1 0 ⟨#[]⟩ := ⟨_, rfl⟩
      obtain ⟨L, hL⟩ : ∃ L, L = sgs sS 0 (OfB ⟨#[]⟩) 18 := ⟨_, rfl⟩
      have C0 := Lib.hid (fun W => Sign_e W)
      rw [← hsg] at C0 k1
      rw [← hL] at k1 k2 hL18 hL8
      have hlk : ∀ c : Nat, c < 18 → L[c]? = some (lnk (startB sS 0 c) (rd exD c).toNat) := by
        intro c hc
        have := sgs_get sS 0 (OfB ⟨#[]⟩) 18 c hc
        rw [← hL, digits_exD c hc] at this
        rw [List.getElem?_eq_getElem (by omega), ← this, List.getD_eq_getElem?_getD, List.getElem?_eq_getElem (by omega)]
        rfl
      obtain ⟨kl, hkl⟩ := Ev.all (g := fun k c => abugidaref04_Link.f k sS ((0 : Nat) : Int) ((c : Nat) : Int) (rd exD c)) (r := fun c => lnk (startB sS 0 c) (rd exD c).toNat) 18 (fun c hc => by
        have hr := dgt_range (OfB ⟨#[]⟩) c
        rw [digits_exD c hc] at hr
        have e : rd exD c = ((rd exD c).toNat : Int) := by omega
        rw [e, Int.toNat_natCast]
        exact link_ev sS (by decide) 0 c _ (by omega) (by omega) (by omega))
      have K1 := Lib.hid k1
      have K2 := Lib.hid k2
      have K3 := Lib.hid k3
      have HLK := Lib.hid hlk
      have HKL := Lib.hid hkl
      have HL18 := Lib.hid hL18
      have hin2 : (Try.prog.info? 54).map (·.size) = some exA.size := by kernel_rfl
      have hone : exA.all (·.oneCell') = true := by simp [exA, Value.oneCell']
      have HIN2 := Lib.hid hin2
      have HONE := Lib.hid hone
      clear hsg hL k1 k2 k3 kS hL18 hL8 hlk hkl hin2 hone
      go_wp2_with (first
        | (go_at_call 15; with_reducible refine (C0.out _).mono ?_; rintro e w6 ⟨rfl, hb6⟩; have HB6 := Lib.hid (HB.out.trans (hb6.mono HB.out.size)); clear hb6)
        | (go_at_call 19; with_reducible refine (wire_New.calls sg sg false w _ HB6.out rfl).mono ?_; rintro e w7 ⟨g, rfl, hi1, hb1, -⟩; have HI1 := Lib.hid hi1; have HB7 := Lib.hid hb1; clear hi1 hb1)
        | (go_at_call 20; with_reducible refine (wire_Reader_Int.calls k g sg false _ _ _ w _ HI1.out HB7.out K1.out).mono ?_; rintro e w8 ⟨rfl, hi2, hb2, -⟩; have HI2 := Lib.hid hi2; have HB8 := Lib.hid hb2; clear hi2 hb2)
        | (go_at_call 21; with_reducible refine (wire_Reader_Texts.calls k g _ _ L _ _ w _ HI2.out HB8.out K2.out).mono ?_; rintro e w9 ⟨v9, rfl, hR9, hi9, hb9, -⟩; have HI9 := Lib.hid hi9; have HB9 := Lib.hid hb9; have HR9 := Lib.hid hR9; clear hi9 hb9 hR9)
        | (refine wpList_store_mid rfl 54 (.tmp 19) (.tmp 118) rfl w9.heap.size 0 exA rfl rfl ?th HIN2.out HONE.out ?_; (case th => exact there_blk (blk_new w9 _) rfl)))
      obtain ⟨D, hD⟩ : ∃ D, D = w9.heap.size := ⟨_, rfl⟩
      have hth : (w9.alloc (.cells zeroA 54)).there D 0 exA.toList.length := by rw [hD]; exact there_blk (blk_new w9 _) rfl
      have hrs := World.rangeAt_setCells_same _ D 0 exA.toList hth
      have hb6 : Below w9.heap.size w9 ((w9.alloc (.cells zeroA 54)).setCells D 0 exA.toList) := below_cells (Nat.le_of_eq hD.symm) _ _ _ ((Below.refl _ _).alloc (Nat.le_refl _) _)
      rw [← hD]
      have hD5 : w9.heap.size ≤ D := Nat.le_of_eq hD.symm
      clear hD hth
      generalize (w9.alloc (.cells zeroA 54)).setCells D 0 exA.toList = wa at *
      have HIa := Lib.hid (HI9.out.below hb6)
      have HRa := Lib.hid (Kd.R_below HR9.out hb6)
      have HBa := Lib.hid (HB9.out.trans (hb6.mono HB9.out.size))
      have HRS := Lib.hid hrs
      have hgD : D ≠ g := by have := HI9.out.lt; omega
      clear hrs hb6 hD5 HI9 HR9 HB9
      obtain ⟨A9, c9, rfl, hl9, hC9⟩ := Kd.R_reads HRa.out
      have hx1 : ((L.length : Int) != 18) = false := by rw [HL18.out]; rfl
      have hlb : L.length ≤ 9223372036854775807 := by rw [HL18.out]; omega
      clear hC9
      have hlen := len_strs
      go_wp2
      go_simp
      go_wp2_with (first
        | (go_at_call 21; with_reducible refine (wire_Reader_Texts.calls k g _ _ [] _ _ w _ HIa.out HBa.out K3.out).mono ?_; rintro e wb ⟨vb, rfl, hRb, hib, hbb, hkb⟩; obtain ⟨Ab, cb, rfl, -, -⟩ := Kd.R_reads hRb; have HIb := Lib.hid hib; have HBb := Lib.hid hbb; have HRb := Lib.hid (R_past HIa.out HRa.out (by decide) hkb); have HRSb := Lib.hid (range_keep HRS.out hkb hgD); clear hib hbb hRb hkb)
        | (go_at_call 22; with_reducible refine (wire_Reader_Bad.calls g ⟨#[]⟩ false false ⟨#[]⟩ false w _ HIb.out HBb.out rfl).mono ?_; rintro e wc ⟨rfl, hic, hbc, hkc⟩; have HBc := Lib.hid hbc; have HRc := Lib.hid (R_past HIb.out HRb.out (by decide) hkc); have HRSc := Lib.hid (range_keep HRSb.out hkc hgD); clear hic hbc hkc))
      obtain ⟨A9', c9', e9, hl9, hC9⟩ := Kd.R_reads HRc.out
      cases e9
      obtain ⟨ad9, eA9, _⟩ := hC9.2.2 (by rw [HL18.out]; omega)
      subst eA9
      have HCc := Lib.hid hC9
      clear hC9 hx1 hlen
      go_loopw [20] (fun kv wr => ∃ c : Nat, c ≤ 18 ∧ kv = .int .i64 c ∧ Below wc.heap.size wc wr) (fun kv _ => 18 - (intOf kv).toNat)
      case atStart => exact ⟨0, by omega, rfl, Below.refl _ _⟩
      case round =>
        obtain ⟨c, hc, rfl, hBr⟩ := hrel
        have HBr := Lib.hid hBr
        clear hBr
        by_cases hlc : c < 18
        · have hx1 : decide ((c : Int) < 18) = true := decide_eq_true (by omega)
          have hcl : c < L.length := by rw [HL18.out]; exact hlc
          have q1 : wr.cell? (ad9.add c) = some (.string (lnk (startB sS 0 c) (rd exD c).toNat)) := by
            have := Kd.foot_string (Kd.C_below HCc.out HBr.out) (c : Int) (by omega) (by omega)
            rw [rdOf, Int.toNat_natCast, List.getD_eq_getElem?_getD, HLK.out c hlc] at this
            exact this
          have q2 : wr.cell? ⟨D, c, none⟩ = some (.int .i64 (rd exD c)) := by
            have h8 : wc.cell? ⟨D, c, none⟩ = some (.int .i64 (rd exD c)) := by
              have := HRSc.out c (.int .i64 (rd exD c)) (exA_get c hlc)
              rwa [Nat.zero_add] at this
            exact (HBr.out.cell (World.block_lt_of_cell? _ _ h8)).trans h8
          have hk := HKL.out c hlc
          obtain ⟨dv, hdv⟩ : ∃ dv, dv = rd exD c := ⟨_, rfl⟩
          rw [← hdv] at q1 q2 hk
          obtain ⟨x, hx⟩ : ∃ x, x = lnk (startB sS 0 c) dv.toNat := ⟨_, rfl⟩
          rw [← hx] at q1 hk
          have r1 : (0 ≤ (c : Int)) = True := eq_true (by omega)
          have r2 : ((c : Int) < (L.length : Int)) = True := eq_true (by omega)
          have r3 : ((c : Int) < 18) = True := eq_true (by omega)
          have HLKc := Lib.hid (fun W => abugidaref04_Link.calls kl ⟨#[115]⟩ 0 c dv x W hk)
          have c0 : wr.drew.cell? (ad9.add c) = some (.string x) := q1
          have c1 : wr.drew.cell? ⟨D, c, none⟩ = some (.int .i64 dv) := q2
          have hlt0 := World.block_lt_of_cell? _ _ c0
          have hlt1 := World.block_lt_of_cell? _ _ c1
          have HBd := Lib.hid (below_drew1 HBr.out)
          clear hdv hx hk hcl q1 q2
          go_wp2
          refine start_ (n := 10) (S := fun w' => w'.cell? (ad9.add c) = some (.string x) ∧ w'.cell? ⟨D, c, none⟩ = some (.int .i64 dv)) (ds := []) #[false, false, false, false, false, false, false, false, false, false] (by kernel_rfl) rfl rfl ⟨c0, c1⟩ (fun hHeld => ?_)
          generalize wr.drew = wd at HBd c0 c1 hlt0 hlt1 hHeld ⊢; have HX := Lib.hid (Below.refl wd.heap.size wd)
          refine pure_ (i := 0) (N := some 140) (v := ?_) (a' := ?_) #[true, false, false, false, false, false, false, false, false, false] rfl rfl (by kernel_rfl) (fun _ _ _ h => h) (Or.inl ⟨by rfl, ?_⟩) ?_ ?_
          rotate_left
          · intro w'
            go_simp
            with_reducible rfl
          rotate_left
          · simp only [Act.put, List.setIfInBounds_toArray, List.set_cons_zero, List.set_cons_succ, i64_w, i32_w]
            rfl
          refine pure_ (i := 1) (N := some 141) (v := ?_) (a' := ?_) #[true, true, false, false, false, false, false, false, false, false] rfl rfl (by kernel_rfl) (fun _ _ _ h => h) (Or.inl ⟨by rfl, ?_⟩) ?_ ?_
          rotate_left
          · intro w'
            go_simp
            with_reducible rfl
          rotate_left
          · simp only [Act.put, List.setIfInBounds_toArray, List.set_cons_zero, List.set_cons_succ, i64_w, i32_w]
            rfl
          refine pure_ (i := 2) (N := some 142) (v := ?_) (a' := ?_) #[true, true, true, false, false, false, false, false, false, false] rfl rfl (by kernel_rfl) (fun _ _ _ h => h) (Or.inl ⟨by rfl, ?_⟩) ?_ ?_
          rotate_left
          · intro w'
            go_simp
            with_reducible rfl
          rotate_left
          · simp only [Act.put, List.setIfInBounds_toArray, List.set_cons_zero, List.set_cons_succ, i64_w, i32_w]
            rfl
          refine pure_ (i := 4) (N := some 144) (v := ?_) (a' := ?_) #[true, true, true, false, true, false, false, false, false, false] rfl rfl (by kernel_rfl) (fun _ _ _ h => h) (Or.inl ⟨by rfl, ?_⟩) ?_ ?_
          rotate_left
          · intro w'
            go_simp
            with_reducible rfl
          rotate_left
          · simp only [Act.put, List.setIfInBounds_toArray, List.set_cons_zero, List.set_cons_succ, i64_w, i32_w]
            rfl
          refine pure_ (i := 5) (N := some 145) (v := ?_) (a' := ?_) #[true, true, true, false, true, true, false, false, false, false] rfl rfl (by kernel_rfl) (fun _ _ _ h => h) (Or.inl ⟨by rfl, ?_⟩) ?_ ?_
          rotate_left
          · intro w'
            go_simp
            with_reducible rfl
          rotate_left
          · simp only [Act.put, List.setIfInBounds_toArray, List.set_cons_zero, List.set_cons_succ, i64_w, i32_w]
            rfl
          refine pure_ (i := 6) (N := some 146) (v := ?_) (a' := ?_) #[true, true, true, false, true, true, true, false, false, false] rfl rfl (by kernel_rfl) (fun _ _ _ h => h) (Or.inl ⟨by rfl, ?_⟩) ?_ ?_
          rotate_left
          · intro w'
            go_simp
            with_reducible rfl
          rotate_left
          · simp only [Act.put, List.setIfInBounds_toArray, List.set_cons_zero, List.set_cons_succ, i64_w, i32_w]
            rfl
          refine take_ (i := 3) (N := some 143) (v := ?_) (a' := ?_) #[true, true, true, true, true, true, true, false, false, false] rfl rfl (by kernel_rfl) (fun _ _ _ h => h) (Or.inl ⟨by rfl, ?_⟩) hHeld ?_ ?_
          rotate_left
          · rintro w' ⟨s0, s1⟩
            go_simp
            with_reducible rfl
          rotate_left
          · simp only [Act.put, List.setIfInBounds_toArray, List.set_cons_zero, List.set_cons_succ, i64_w, i32_w]
            rfl
          refine take_ (i := 7) (N := some 147) (v := ?_) (a' := ?_) #[true, true, true, true, true, true, true, true, false, false] rfl rfl (by kernel_rfl) (fun _ _ _ h => h) (Or.inl ⟨by rfl, ?_⟩) hHeld ?_ ?_
          rotate_left
          · rintro w' ⟨s0, s1⟩
            go_simp
            with_reducible rfl
          rotate_left
          · simp only [Act.put, List.setIfInBounds_toArray, List.set_cons_zero, List.set_cons_succ, i64_w, i32_w]
            rfl
          refine one_ (i := 8) (N := some 148) #[true, true, true, true, true, true, true, true, true, false] rfl rfl (by kernel_rfl) (by decide) (fun K hK => ?_)
          refine goes_ Try.func25 (by kernel_rfl) rfl #[.string ⟨#[115]⟩, .int .i64 0, .int .i64 c, .int .i64 dv] (by rfl) rfl rfl (by simp only [List.map_toArray, List.map_cons, List.map_nil]; rfl) ?_
          with_reducible refine (HLKc.out _).mono ?_
          rintro e wx ⟨rfl, hb⟩
          refine ⟨_, rfl, ?_⟩
          have n_ := Lib.hid (HX.out.trans (hb.mono HX.out.size)); clear HX; have HX := n_; clear n_ hb
          refine hK.out _ _ ⟨(HX.out.cell hlt0).trans c0, (HX.out.cell hlt1).trans c1⟩ (fun hHeld => ?_)
          clear hK K
          refine norm_ (a' := ?_) ?_ ?_
          rotate_left
          · show Act.put _ (some 148) _ = _
            simp only [Act.put, List.setIfInBounds_toArray, List.set_cons_zero, List.set_cons_succ, i64_w, i32_w]
            rfl
          refine pure_ (i := 9) (N := some 149) (v := ?_) (a' := ?_) #[true, true, true, true, true, true, true, true, true, true] rfl rfl (by kernel_rfl) (fun _ _ _ h => h) (Or.inl ⟨by rfl, ?_⟩) ?_ ?_
          rotate_left
          · intro w'
            go_simp
            with_reducible rfl
          rotate_left
          · simp only [Act.put, List.setIfInBounds_toArray, List.set_cons_zero, List.set_cons_succ, i64_w, i32_w]
            rfl
          refine done_ (by kernel_rfl) ?_
          go_wp2
          go_roundw
          case rel => exact ⟨c + 1, by omega, by go_num, HBd.out.trans (HX.out.mono HBd.out.size)⟩
          case measure => simp [intOf]; omega
        · obtain rfl : c = 18 := by omega
          have hx1 : decide (((18 : Nat) : Int) < 18) = false := by decide
          go_wp2
          go_ret
          exact ⟨rfl, HBc.out.trans (HBr.out.mono HBc.out.size)⟩
end Go.Proofs.Ytoolionhheiihaa.Sg
