/- RelayKeeps. -/
import Derived.Test.YthokkeljfdfppaaMgK
set_option linter.unusedVariables false
set_option linter.unusedSimpArgs false
namespace Go.Proofs.Ythokkeljfdfppaa.Rl
open Go.RowKit Go.Proofs.YthokkeljfdfppaaW.PrintWords Go.Proofs.YthokkeljfdfppaaW.PrintLast Go.Proofs.YthokkeljfdfppaaW.PrintMore Go.Proofs.Ythokkeljfdfppaa.Pb Go.Proofs.Ythokkeljfdfppaa.Gw Go.Proofs.Ythokkeljfdfppaa.Pure
theorem enc_x (f0 : ByteArray) (f1 k1 k2 k3 b1 b2 b3 : Int) (f4 : ByteArray) (f5 : Int) (f6 : List ByteArray) (A : Option Addr) (c : Nat) (r : ByteArray) (w : World) (hp : PK (⟨f0, f1, ⟨k1, k2, k3⟩, ⟨b1, b2, b3⟩, f4, f5, f6⟩ : S55)) (hr : Kd.C Kd.string w A f6.length f6) (hc : f6.length ≤ c) (hR : EncB (⟨f0, f1, ⟨k1, k2, k3⟩, ⟨b1, b2, b3⟩, f4, f5, f6⟩ : S55) = r) :
 Calls Try.prog 37 #[.agg #[.string f0, .int .i64 f1, .int .i64 k1, .int .i64 k2, .int .i64 k3, .int .i64 b1, .int .i64 b2, .int .i64 b3, .string f4, .int .i64 f5, .slice A f6.length c]] w fun e w' => e = .returned (.string r) ∧ Below w.heap.size w w' := enc_c (p := ⟨f0, f1, ⟨k1, k2, k3⟩, ⟨b1, b2, b3⟩, f4, f5, f6⟩) (hR ▸ encIs hp) A c w hr hc
theorem inv_all (bytes : Int) (P : List S55) : ∀ (i : Nat), i ≤ P.length → Inv bytes P i (keepAll bytes [] (P.take i))
 | 0, _ => Inv.nil _ _ _
 | i + 1, h => by
   obtain ⟨x, hx⟩ : ∃ x, P[i]? = some x := ⟨P[i], List.getElem?_eq_getElem (by omega)⟩
   rw [keepAll_snoc bytes [] P i x hx]
   exact (inv_all bytes P i (by omega)).step hx
theorem sumP_snoc (T : List S55) (k : Nat) (t : S55) (h : T[k]? = some t) : sumP (T.take (k + 1)) = sumP (T.take k) + szP t := by
 rw [List.take_add_one, h]
 simp [sumP]
theorem sumP_few (T : List S55) (h : ∀ p ∈ T, MadeP p) : ∀ (k : Nat), 0 ≤ sumP (T.take k) ∧ sumP (T.take k) ≤ 300 * k
 | 0 => by simp [sumP]
 | k + 1 => by
   have ih := sumP_few T h k
   by_cases c : k < T.length
   · obtain ⟨t, ht⟩ : ∃ t, T[k]? = some t := ⟨T[k], List.getElem?_eq_getElem c⟩
     have h1 := made_enc (h t (List.mem_of_getElem? ht))
     rw [sumP_snoc T k t ht]
     unfold szP
     omega
   · rw [List.take_of_length_le (by omega)] at ih ⊢
     omega
def thB (fb : Bool) (p : S55) (T : List S55) (k : Nat) : Bool := !fb || (T.take k).any (fun t => eqP t p)
theorem thB_snoc (fb : Bool) (p : S55) (T : List S55) (k : Nat) (t : S55) (h : T[k]? = some t) : thB fb p T (k + 1) = (thB fb p T k || eqP t p) := by
 unfold thB
 rw [List.take_add_one, h]
 simp [Bool.or_assoc]
theorem eqP_self (t : S55) : eqP t t = true := (eqP_iff t t).2 rfl
theorem eqP_self_x (a0 : ByteArray) (a1 a2 a3 a4 a5 a6 a7 : Int) (a8 : ByteArray) (a9 : Int) (a10 : List ByteArray) (A : Option Addr) (ca : Nat) (B : Option Addr) (cb : Nat) (w : World) (hA : Kd.C Kd.string w A a10.length a10) (hca : a10.length ≤ ca) (hB : Kd.C Kd.string w B a10.length a10) (hcb : a10.length ≤ cb) (hl : a10.length ≤ 9000) : Calls Try.prog 39 #[.agg #[.string a0, .int .i64 a1, .int .i64 a2, .int .i64 a3, .int .i64 a4, .int .i64 a5, .int .i64 a6, .int .i64 a7, .string a8, .int .i64 a9, .slice A a10.length ca], .agg #[.string a0, .int .i64 a1, .int .i64 a2, .int .i64 a3, .int .i64 a4, .int .i64 a5, .int .i64 a6, .int .i64 a7, .string a8, .int .i64 a9, .slice B a10.length cb]] w fun e w' => e = .returned (.bool true) ∧ Below w.heap.size w w' := by
 have := SamePatch_x a0 a1 a2 a3 a4 a5 a6 a7 a8 a9 a10 A ca a0 a1 a2 a3 a4 a5 a6 a7 a8 a9 a10 B cb w hA hca hB hcb hl
 rw [eqP_self] at this
 exact this
theorem many_n {w : World} {g b : Nat} {no bytes : Int} {N : Nat} {L : List S55} (n : Nat) (h : RS w g b no bytes N L) (hn : n = L.length) :
 Calls Try.prog 35 #[.pointer (some ⟨g, 0, none⟩)] w fun e w' => e = .returned (.int .i64 n) ∧ Below w.heap.size w w' := by
 subst hn
 exact Many_s h
theorem budget_wraps (nb rm : Nat) (most : Int) (h0 : nb ≤ 65535) (h1 : rm < 400) (h2 : most = 1 + (rm : Int)) : IntKind.i64.wrap (nb : Int) = (nb : Int) ∧ IntKind.i64.wrap (1 + (rm : Int)) = most ∧ wrap64 (1 + (rm : Int)) = most := by
 refine ⟨?_, ?_, ?_⟩
 · rw [IntKind.wrap_i64]; omega
 · rw [IntKind.wrap_i64]; omega
 · unfold wrap64; omega
theorem sum_wraps (s s2 : Int) (et : ByteArray) (h0 : 0 ≤ s ∧ s ≤ 100000) (h1 : et.size ≤ 1000) (h2 : s2 = s + (et.size : Int)) : wrap64 (s + (et.size : Int)) = s2 ∧ IntKind.i64.wrap (s + (et.size : Int)) = s2 := by
 constructor
 · unfold wrap64; omega
 · rw [IntKind.wrap_i64]; omega
set_option maxHeartbeats 32000000 in
set_option maxRecDepth 100000 in
theorem keeps_walk (w : World) (bu : Int) (hbu : 0 ≤ bu ∧ bu ≤ 65535) (A0 : Option Addr) (c0 : Nat) (l0 : List S52) (hC0 : Kd.C k52 w A0 l0.length l0) :
 Calls Try.prog 8 #[.int .u16 bu, .slice A0 l0.length c0] w fun e w' => e = .returned (.bool true) ∧ Below w.heap.size w w' := by
 obtain ⟨nb, rfl⟩ : ∃ n : Nat, bu = (n : Int) := ⟨bu.toNat, by omega⟩
 obtain ⟨rm, hrm⟩ : ∃ r, r = nb % 400 := ⟨_, rfl⟩
 obtain ⟨most, hmost⟩ : ∃ x : Int, x = 1 + (rm : Int) := ⟨_, rfl⟩
 have hbm : rm < 400 := by omega
 have HWR := Lib.hid (budget_wraps nb rm most (by omega) hbm hmost)
 have hmod : ((nb : Int).tmod 400) = (rm : Int) := by rw [hrm]; rfl
 have HPOS := Lib.hid (show 0 < most from by omega)
 have HMO := Lib.hid (show 1 ≤ most ∧ most ≤ 400 from by omega)
 have HC0 := Lib.hid hC0
 have HBIG := Lib.hid (show most ≤ 1099511627776 from by omega)
 clear hC0 hrm hmost hbm hbu
 obtain ⟨m0, m2, m3⟩ := HWR.out
 go_enter Try.func8, Try.ntmps8
 go_upto_region 2 with (go_at_call 14; refine (sanity_c _).mono ?_; rintro e Ws ⟨rfl, hb⟩; have HBs := Lib.hid hb; clear hb)
 go_upto_region 4 with (go_at_call 27; refine (New_c 2 most HPOS.out _).mono ?_; rintro e W3 ⟨g, b, rfl, hb, hg, hb_, hs⟩; have HGW := Lib.hid (show w.heap.size ≤ g ∧ w.heap.size ≤ b from ⟨Nat.le_trans HBs.out.size hg, Nat.le_trans HBs.out.size hb_⟩); have HS3 := Lib.hid hs; have HB3 := Lib.hid (HBs.out.trans (hb.mono HBs.out.size)); clear hb hg hb_ hs)
 go_upto_region 7 with (go_at_call 20; refine (patches_r l0 A0 c0 _ (Kd.C_below HC0.out HB3.out)).mono ?_; rintro e Wp ⟨P, B, d, rfl, hp, hb⟩; have HPp := Lib.hid hp; have HSp := Lib.hid (HS3.out.below hb); have HBp := Lib.hid (HB3.out.trans (hb.mono HB3.out.size)); clear hp hb)
 have HQ := Lib.hid (show ∀ k, W3.heap.size ≤ k → k ≠ g ∧ k ≠ b from fun k hk => ⟨by have := HS3.out.gb.1; omega, by have := HS3.out.gb.2; omega⟩)
 have HFEW := Lib.hid HPp.out.few
 have HMADE := Lib.hid HPp.out.made
 clear HBs m0 hmod m2 m3
 go_wp2
 go_loopg [9] (P.length + 1) (fun kq v9 w' => ∃ i : Nat, v9 = .int .i64 (i : Int) ∧ i + kq = P.length + 1 ∧ i ≤ P.length ∧ PatRow w' (fun k => W3.heap.size ≤ k) B d P ∧ Below w.heap.size w w' ∧ RS w' g b 2 most i (keepAll most [] (P.take i)))
 case atStart => exact ⟨0, rfl, by omega, by omega, HPp.out, HBp.out, HSp.out⟩
 case round =>
  clear HPp HBp HSp HS3 HB3
  obtain ⟨i, rfl, hi, hil, hp, hb, hs⟩ := hrel
  have HJ := Lib.hid (show i + gk = P.length + 1 ∧ i ≤ P.length from ⟨hi, hil⟩)
  have HPR := Lib.hid hp
  have HBR := Lib.hid hb
  have HSR := Lib.hid hs
  cases gk with
  | zero => exact absurd HJ.out (by omega)
  | succ kA =>
  by_cases c0 : i < P.length
  · have d1 : decide ((i : Int) < (P.length : Int)) = true := decide_eq_true (by omega)
    obtain ⟨p, hx⟩ : ∃ x, P[i]? = some x := ⟨P[i], List.getElem?_eq_getElem c0⟩
    obtain ⟨ga, hga⟩ := HPR.out.plain (by omega)
    subst hga
    have hpk := made_pk (HMADE.out p (List.mem_of_getElem? hx))
    have hsn := keepAll_snoc most [] P i p hx
    have hinv := inv_all most P (i + 1) (by omega)
    obtain ⟨ec, hec⟩ : ∃ x, x = (keepP most (keepAll most [] (P.take i)) p).1 := ⟨_, rfl⟩
    obtain ⟨L, hL⟩ : ∃ x, x = keepAll most [] (P.take (i + 1)) := ⟨_, rfl⟩
    have hLM : ∀ q ∈ L, MadeP q := by rw [hL]; exact keepAll_made most _ [] (fun q hq => HMADE.out q (List.mem_of_mem_take hq)) (fun q hq => absurd hq (by simp))
    have hfit : (most < szP p ∧ ec = 50) ∨ (¬ most < szP p ∧ ec = 0 ∧ p ∈ L) := by
     by_cases cf : most < szP p
     · exact .inl ⟨cf, by rw [hec]; unfold keepP; rw [if_pos cf]⟩
     · exact .inr ⟨cf, by rw [hec]; unfold keepP; rw [if_neg cf], by rw [hL, hsn]; exact keep_there cf⟩
    rw [← hL] at hsn hinv
    obtain ⟨eb, heb⟩ : ∃ x, x = EncB p := ⟨_, rfl⟩
    obtain ⟨fb, hfb⟩ : ∃ x, x = decide ((eb.size : Int) ≤ most) := ⟨_, rfl⟩
    have HFIT := Lib.hid (show (fb = false ∧ ec = 50) ∨ (fb = true ∧ ec = 0 ∧ p ∈ L) from by
     rcases hfit with ⟨a, b⟩ | ⟨a, b, c⟩
     · exact .inl ⟨by rw [hfb]; exact decide_eq_false (by unfold szP at a; rw [heb]; omega), b⟩
     · exact .inr ⟨by rw [hfb]; exact decide_eq_true (by unfold szP at a; rw [heb]; omega), b, c⟩)
    have HLM := Lib.hid hLM
    have HINV := Lib.hid hinv
    have HPK := Lib.hid hpk
    have HX := Lib.hid hx
    have HEB := Lib.hid heb
    have HEC := Lib.hid hec
    have HFB := Lib.hid hfb.symm
    have HSN := Lib.hid hsn
    have HLE := Lib.hid hL
    obtain ⟨p0, hp0⟩ : ∃ x, x = p := ⟨_, rfl⟩
    have HP0 := Lib.hid hp0
    obtain ⟨b0, b1, ⟨b2, b3, b4⟩, ⟨b5, b6, b7⟩, b8, b9, b10⟩ := p
    have i1 : ((0 : Int) ≤ (i : Int)) = True := eq_true (by omega)
    have i2 : ((i : Int) < (P.length : Int)) = True := eq_true (by omega)
    have HJL := Lib.hid c0
    have HI5 := Lib.hid (show i ≤ 100000 from by have := HFEW.out; omega)
    have HE1 := Lib.hid (show wrap64 ((i : Int) + 1) = ((i + 1 : Nat) : Int) from by rw [rl64 (by have := HFEW.out; omega) (by have := HFEW.out; omega)]; omega)
    obtain ⟨yA, yc, hyr, hyl, hyC⟩ := elem55C HPR.out.c HX.out
    simp only at hyr hyl hyC
    have HYR := Lib.hid hyr
    have HYL := Lib.hid hyl
    have HYC := Lib.hid hyC
    clear hyr hyl hyC hx hpk hsn hinv hec hLM hfit hL heb hfb hp0 hp hb hs hi hil c0
    go_upto_region 11 with (first
     | (refine wpList_load_mid rfl 55 (.tmp 38) rfl ga (i * 11) rfl (#[.string b0, .int .i64 b1, .int .i64 b2, .int .i64 b3, .int .i64 b4, .int .i64 b5, .int .i64 b6, .int .i64 b7, .string b8, .int .i64 b9, .slice yA b10.length yc] : Array Value).toList _ HYR.out Try.underlying55 rfl (inf11 rfl) ?_)
     | (go_at_call 31; refine (keep_x HSR.out HPOS.out HBIG.out HI5.out b0 b1 b2 b3 b4 b5 b6 b7 b8 b9 b10 HPK.out yA yc HYC.out HYL.out).mono ?_; rintro e W5 ⟨rfl, ho3, hs3⟩; rw [← HEC.out]; have HO5 := Lib.hid ho3; have HS5 := Lib.hid (show RS W5 g b 2 most (i + 1) L from by rw [HSN.out]; exact hs3); clear ho3 hs3))
    have HP5 := Lib.hid (HPR.out.only HO5.out HQ.out)
    obtain ⟨vA, vc, hyr, hyl, hyC⟩ := elem55C HP5.out.c HX.out
    simp only at hyr hyl hyC
    have HVR := Lib.hid hyr
    have HVL := Lib.hid hyl
    have HVC := Lib.hid hyC
    have HB5 := Lib.hid (Only.below HBR.out HO5.out HGW.out.1 HGW.out.2 HBR.out.size)
    clear hyr hyl hyC HPR HSR HBR HYR HYL HYC HO5
    go_upto_region 12 with (first
     | (refine wpList_load_mid rfl 55 (.tmp 43) rfl ga (i * 11) rfl (#[.string b0, .int .i64 b1, .int .i64 b2, .int .i64 b3, .int .i64 b4, .int .i64 b5, .int .i64 b6, .int .i64 b7, .string b8, .int .i64 b9, .slice vA b10.length vc] : Array Value).toList _ HVR.out Try.underlying55 rfl (inf11 rfl) ?_)
     | (go_at_call 37; refine (enc_x b0 b1 b2 b3 b4 b5 b6 b7 b8 b9 b10 vA vc eb _ HPK.out HVC.out HVL.out HEB.out.symm).mono ?_; rintro e W6 ⟨rfl, hb⟩; have HP6 := Lib.hid (HP5.out.below hb); have HS6 := Lib.hid (HS5.out.below hb); have HB6 := Lib.hid (HB5.out.trans (hb.mono HB5.out.size)); clear hb))
    simp only [HFB.out]
    clear HP5 HS5 HB5 HVR HVL HVC
    go_cut [60] (fun v60 wx => v60 = .bool false ∧ wx = W6)
    case first =>
     rcases HFIT.out with ⟨h1, h2⟩ | ⟨h1, h2, _⟩
     · subst h1 h2
       go_wp2
       go_meet
       exact ⟨rfl, rfl⟩
     · subst h1 h2
       go_wp2
       go_meet
       exact ⟨rfl, rfl⟩
    case rest =>
     obtain ⟨rfl, rfl⟩ := hcut
     obtain ⟨T, hT⟩ : ∃ x, x = allTo L 4 := ⟨_, rfl⟩
     have hall := all_c HS6.out (by have := HMO.out; omega) (by have := HMO.out; omega) (by have := HFEW.out; have := HJL.out; omega) HLM.out
     have hpm := all_perm L HLM.out
     rw [← hT] at hall hpm
     obtain ⟨nT, hnT⟩ : ∃ n, n = T.length := ⟨_, rfl⟩
     rw [← hnT] at hall
     have HALL := Lib.hid hall
     have HPM := Lib.hid hpm
     have HNT := Lib.hid hnT
     have HTM := Lib.hid (show ∀ t ∈ T, MadeP t from fun t ht => HLM.out t (hpm.mem_iff.1 ht))
     have HT12 := Lib.hid (show nT ≤ 12 from by rw [hnT, hpm.length_eq]; have := HS6.out.oks.2.1; have := HFEW.out; have := HJL.out; omega)
     have HSUM := Lib.hid (show sumP T ≤ most from by rw [sumP_perm hpm]; exact HS6.out.oks.2.2)
     clear hall hpm hnT hT
     go_upto_region 15 with (go_at_call 38; refine HALL.out.mono ?_; rintro e W7 ⟨A7, c7, rfl, h1, h2, h3, hb⟩; have HA7 := Lib.hid h2; have HF7 := Lib.hid h3; have HS7 := Lib.hid (HS6.out.below hb); have HP7 := Lib.hid (HP6.out.below hb); have HB7 := Lib.hid (HB6.out.trans (hb.mono HB6.out.size)); clear h1 h2 h3 hb)
     have HTC := Lib.hid (Kd.F_now HF7.out)
     clear HALL HP6 HS6 HB6 HF7 HFB
     go_wp2
     go_loopg [13, 14, 15] (nT + 1) (fun kq v13 v14 v15 w' => ∃ k : Nat, v15 = .int .i64 (k : Int) ∧ v13 = .int .i64 (sumP (T.take k)) ∧ v14 = .bool (thB fb p0 T k) ∧ k + kq = nT + 1 ∧ k ≤ nT ∧ Below W7.heap.size W7 w')
     case atStart => exact ⟨0, rfl, rfl, by simp [thB], by omega, by omega, Below.refl _ _⟩
     case round =>
      obtain ⟨k, rfl, rfl, rfl, hk, hkl, hbk⟩ := hrel
      have HK := Lib.hid (show k + gk = nT + 1 ∧ k ≤ nT from ⟨hk, hkl⟩)
      have HBK := Lib.hid hbk
      cases gk with
      | zero => exact absurd HK.out (by omega)
      | succ kB =>
        by_cases c1 : k < nT
        · have d2 : decide ((k : Int) < (nT : Int)) = true := decide_eq_true (by omega)
          obtain ⟨t, ht⟩ : ∃ x, T[k]? = some x := ⟨T[k]'(by have := HNT.out; omega), List.getElem?_eq_getElem _⟩
          obtain ⟨gt, hgt⟩ := HA7.out (by omega)
          subst hgt
          have htm := HTM.out t (List.mem_of_getElem? ht)
          have htk := made_pk htm
          have htz := made_enc htm
          have hss := sumP_snoc T k t ht
          have hth := thB_snoc fb p0 T k t ht
          have hfw := sumP_few T HTM.out k
          obtain ⟨et, het⟩ : ∃ x, x = EncB t := ⟨_, rfl⟩
          obtain ⟨s1, hs1⟩ : ∃ x, x = sumP (T.take k) := ⟨_, rfl⟩
          obtain ⟨s2, hs2⟩ : ∃ x, x = sumP (T.take (k + 1)) := ⟨_, rfl⟩
          obtain ⟨t0, ht0⟩ : ∃ x, x = t := ⟨_, rfl⟩
          obtain ⟨tb, htb⟩ : ∃ x, x = thB fb p0 T k := ⟨_, rfl⟩
          have HF12 := Lib.hid (sum_wraps s1 s2 et (by rw [hs1]; have := HT12.out; omega) (by rw [het]; have := HT12.out; omega) (by rw [hs2, hss, hs1, het]; rfl))
          have HF3 := Lib.hid (show wrap64 ((k : Int) + 1) = ((k + 1 : Nat) : Int) from by rw [rl64 (by have := HT12.out; omega) (by have := HT12.out; omega)]; omega)
          have j1 : ((0 : Int) ≤ (k : Int)) = True := eq_true (by omega)
          have j2 : ((k : Int) < (nT : Int)) = True := eq_true (by omega)
          rw [← hs1, ← htb]
          rw [← htb, ← ht0] at hth
          have HTX := Lib.hid ht
          have HKL := Lib.hid c1
          have HTK := Lib.hid htk
          have HET := Lib.hid het
          have HTH := Lib.hid hth
          have HS2 := Lib.hid hs2
          have HT0 := Lib.hid ht0
          have HTL := Lib.hid (show t0 ∈ L from HPM.out.mem_iff.1 (by rw [ht0]; exact List.mem_of_getElem? ht))
          have HF6 := Lib.hid (show t.f6.length ≤ 9000 from by have := htm.f6; omega)
          clear ht htm htk htz hss hth hfw het hs1 hs2 ht0 htb hk hkl hbk c1
          obtain ⟨a0, a1, ⟨a2, a3, a4⟩, ⟨a5, a6, a7⟩, a8, a9, a10⟩ := t
          simp only at HF6
          obtain ⟨aA, ac, har, hal, haC⟩ := elem55C (Kd.C_below HTC.out HBK.out) HTX.out
          simp only at har hal haC
          have HaR := Lib.hid har
          have HaL := Lib.hid hal
          have HaC := Lib.hid haC
          clear har hal haC
          obtain ⟨f1_, f2_⟩ := HF12.out
          go_upto_region 21 with (first
           | (refine wpList_load_mid rfl 55 (.tmp 74) rfl gt (k * 11) rfl (#[.string a0, .int .i64 a1, .int .i64 a2, .int .i64 a3, .int .i64 a4, .int .i64 a5, .int .i64 a6, .int .i64 a7, .string a8, .int .i64 a9, .slice aA a10.length ac] : Array Value).toList _ HaR.out Try.underlying55 rfl (inf11 rfl) ?_)
           | (go_at_call 37; refine (enc_x a0 a1 a2 a3 a4 a5 a6 a7 a8 a9 a10 aA ac et _ HTK.out HaC.out HaL.out HET.out.symm).mono ?_; rintro e W8 ⟨rfl, hb⟩; have HB8 := Lib.hid (HBK.out.trans (hb.mono HBK.out.size)); clear hb))
          clear HaR HaL HaC f1_ f2_
          go_cut [14] (fun v14 wx => v14 = .bool (tb || eqP t0 p0) ∧ Below W7.heap.size W7 wx)
          case first =>
           have HBd := Lib.hid HB8.out.drew
           have HPd := Lib.hid (HP7.out.below HBd.out)
           obtain ⟨aA, ac, har, hal, haC⟩ := elem55C (Kd.C_below HTC.out HBd.out) HTX.out
           simp only at har hal haC
           have HaR := Lib.hid har
           have HaL := Lib.hid hal
           have HaC := Lib.hid haC
           clear har hal haC
           obtain ⟨vA, vc, hvr, hvl, hvC⟩ := elem55C HPd.out.c HX.out
           simp only at hvr hvl hvC
           have HvR := Lib.hid hvr
           have HvL := Lib.hid hvl
           have HvC := Lib.hid hvC
           clear hvr hvl hvC
           have ax0 := HaR.out 0 _ rfl
           have ax1 := HaR.out 1 _ rfl
           have ax2 := HaR.out 2 _ rfl
           have ax3 := HaR.out 3 _ rfl
           have ax4 := HaR.out 4 _ rfl
           have ax5 := HaR.out 5 _ rfl
           have ax6 := HaR.out 6 _ rfl
           have ax7 := HaR.out 7 _ rfl
           have ax8 := HaR.out 8 _ rfl
           have ax9 := HaR.out 9 _ rfl
           have ax10 := HaR.out 10 _ rfl
           rw [Nat.add_zero] at ax0
           have vx0 := HvR.out 0 _ rfl
           have vx1 := HvR.out 1 _ rfl
           have vx2 := HvR.out 2 _ rfl
           have vx3 := HvR.out 3 _ rfl
           have vx4 := HvR.out 4 _ rfl
           have vx5 := HvR.out 5 _ rfl
           have vx6 := HvR.out 6 _ rfl
           have vx7 := HvR.out 7 _ rfl
           have vx8 := HvR.out 8 _ rfl
           have vx9 := HvR.out 9 _ rfl
           have vx10 := HvR.out 10 _ rfl
           rw [Nat.add_zero] at vx0
           cases tb with
           | true =>
             refine start_ (n := 13) (S := fun w' => w'.cell? ⟨gt, k * 11, none⟩ = some (.string a0) ∧ w'.cell? ⟨gt, k * 11 + 1, none⟩ = some (.int .i64 a1) ∧ w'.cell? ⟨gt, k * 11 + 2, none⟩ = some (.int .i64 a2) ∧ w'.cell? ⟨gt, k * 11 + 3, none⟩ = some (.int .i64 a3) ∧ w'.cell? ⟨gt, k * 11 + 4, none⟩ = some (.int .i64 a4) ∧ w'.cell? ⟨gt, k * 11 + 5, none⟩ = some (.int .i64 a5) ∧ w'.cell? ⟨gt, k * 11 + 6, none⟩ = some (.int .i64 a6) ∧ w'.cell? ⟨gt, k * 11 + 7, none⟩ = some (.int .i64 a7) ∧ w'.cell? ⟨gt, k * 11 + 8, none⟩ = some (.string a8) ∧ w'.cell? ⟨gt, k * 11 + 9, none⟩ = some (.int .i64 a9) ∧ w'.cell? ⟨gt, k * 11 + 10, none⟩ = some (.slice aA a10.length ac) ∧ w'.cell? ⟨ga, i * 11, none⟩ = some (.string b0) ∧ w'.cell? ⟨ga, i * 11 + 1, none⟩ = some (.int .i64 b1) ∧ w'.cell? ⟨ga, i * 11 + 2, none⟩ = some (.int .i64 b2) ∧ w'.cell? ⟨ga, i * 11 + 3, none⟩ = some (.int .i64 b3) ∧ w'.cell? ⟨ga, i * 11 + 4, none⟩ = some (.int .i64 b4) ∧ w'.cell? ⟨ga, i * 11 + 5, none⟩ = some (.int .i64 b5) ∧ w'.cell? ⟨ga, i * 11 + 6, none⟩ = some (.int .i64 b6) ∧ w'.cell? ⟨ga, i * 11 + 7, none⟩ = some (.int .i64 b7) ∧ w'.cell? ⟨ga, i * 11 + 8, none⟩ = some (.string b8) ∧ w'.cell? ⟨ga, i * 11 + 9, none⟩ = some (.int .i64 b9) ∧ w'.cell? ⟨ga, i * 11 + 10, none⟩ = some (.slice vA b10.length vc)) (ds := []) #[false, false, false, false, false, false, false, false, false, false, false, false, false] (by kernel_rfl) rfl rfl ⟨ax0, ax1, ax2, ax3, ax4, ax5, ax6, ax7, ax8, ax9, ax10, vx0, vx1, vx2, vx3, vx4, vx5, vx6, vx7, vx8, vx9, vx10⟩ (fun hHeld => ?_)
             generalize W8.drew = wd at HBd HPd HaC HvC ax0 ax1 ax2 ax3 ax4 ax5 ax6 ax7 ax8 ax9 ax10 vx0 vx1 vx2 vx3 vx4 vx5 vx6 vx7 vx8 vx9 vx10 hHeld ⊢
             refine pA 0 (some 79) rfl rfl (by intro w'; go_simp; with_reducible rfl) (by simp only [Act.put, nS]; rfl) ?_
             refine pA 1 (some 80) rfl rfl (by intro w'; go_simp; with_reducible rfl) (by simp only [Act.put, nS]; rfl) ?_
             refine pU 2 (some 81) rfl rfl (by simp only [Act.put, nS]; rfl) ?_
             refine pU 3 (some 82) rfl rfl (by simp only [Act.put, nS]; rfl) ?_
             refine pU 4 (some 83) rfl rfl (by simp only [Act.put, nS]; rfl) ?_
             refine pU 5 (some 84) rfl rfl (by simp only [Act.put, nS]; rfl) ?_
             refine pU 6 (some 85) rfl rfl (by simp only [Act.put, nS]; rfl) ?_
             refine pU 7 (some 86) rfl rfl (by simp only [Act.put, nS]; rfl) ?_
             refine pU 8 (some 87) rfl rfl (by simp only [Act.put, nS]; rfl) ?_
             refine pU 9 (some 88) rfl rfl (by simp only [Act.put, nS]; rfl) ?_
             refine pU 10 (some 89) rfl rfl (by simp only [Act.put, nS]; rfl) ?_
             refine pA 11 (some 90) rfl rfl (by intro w'; go_simp; with_reducible rfl) (by simp only [Act.put, nS]; rfl) ?_
             refine pA 12 (some 14) rfl rfl (by intro w'; go_simp; with_reducible rfl) (by simp only [Act.put, nS]; rfl) ?_
             refine done_ (by kernel_rfl) ?_
             go_wp2
             go_meet
             exact ⟨by simp, HBd.out⟩
           | false =>
             refine start_ (n := 13) (S := fun w' => w'.cell? ⟨gt, k * 11, none⟩ = some (.string a0) ∧ w'.cell? ⟨gt, k * 11 + 1, none⟩ = some (.int .i64 a1) ∧ w'.cell? ⟨gt, k * 11 + 2, none⟩ = some (.int .i64 a2) ∧ w'.cell? ⟨gt, k * 11 + 3, none⟩ = some (.int .i64 a3) ∧ w'.cell? ⟨gt, k * 11 + 4, none⟩ = some (.int .i64 a4) ∧ w'.cell? ⟨gt, k * 11 + 5, none⟩ = some (.int .i64 a5) ∧ w'.cell? ⟨gt, k * 11 + 6, none⟩ = some (.int .i64 a6) ∧ w'.cell? ⟨gt, k * 11 + 7, none⟩ = some (.int .i64 a7) ∧ w'.cell? ⟨gt, k * 11 + 8, none⟩ = some (.string a8) ∧ w'.cell? ⟨gt, k * 11 + 9, none⟩ = some (.int .i64 a9) ∧ w'.cell? ⟨gt, k * 11 + 10, none⟩ = some (.slice aA a10.length ac) ∧ w'.cell? ⟨ga, i * 11, none⟩ = some (.string b0) ∧ w'.cell? ⟨ga, i * 11 + 1, none⟩ = some (.int .i64 b1) ∧ w'.cell? ⟨ga, i * 11 + 2, none⟩ = some (.int .i64 b2) ∧ w'.cell? ⟨ga, i * 11 + 3, none⟩ = some (.int .i64 b3) ∧ w'.cell? ⟨ga, i * 11 + 4, none⟩ = some (.int .i64 b4) ∧ w'.cell? ⟨ga, i * 11 + 5, none⟩ = some (.int .i64 b5) ∧ w'.cell? ⟨ga, i * 11 + 6, none⟩ = some (.int .i64 b6) ∧ w'.cell? ⟨ga, i * 11 + 7, none⟩ = some (.int .i64 b7) ∧ w'.cell? ⟨ga, i * 11 + 8, none⟩ = some (.string b8) ∧ w'.cell? ⟨ga, i * 11 + 9, none⟩ = some (.int .i64 b9) ∧ w'.cell? ⟨ga, i * 11 + 10, none⟩ = some (.slice vA b10.length vc)) (ds := []) #[false, false, false, false, false, false, false, false, false, false, false, false, false] (by kernel_rfl) rfl rfl ⟨ax0, ax1, ax2, ax3, ax4, ax5, ax6, ax7, ax8, ax9, ax10, vx0, vx1, vx2, vx3, vx4, vx5, vx6, vx7, vx8, vx9, vx10⟩ (fun hHeld => ?_)
             generalize W8.drew = wd at HBd HPd HaC HvC ax0 ax1 ax2 ax3 ax4 ax5 ax6 ax7 ax8 ax9 ax10 vx0 vx1 vx2 vx3 vx4 vx5 vx6 vx7 vx8 vx9 vx10 hHeld ⊢
             refine pA 0 (some 79) rfl rfl (by intro w'; go_simp; with_reducible rfl) (by simp only [Act.put, nS]; rfl) ?_
             refine pA 1 (some 80) rfl rfl (by intro w'; go_simp; with_reducible rfl) (by simp only [Act.put, nS]; rfl) ?_
             refine pA 2 (some 81) rfl rfl (by intro w'; go_simp; with_reducible rfl) (by simp only [Act.put, nS]; rfl) ?_
             refine pA 3 (some 82) rfl rfl (by intro w'; go_simp; with_reducible rfl) (by simp only [Act.put, nS]; rfl) ?_
             refine pA 4 (some 83) rfl rfl (by intro w'; go_simp; with_reducible rfl) (by simp only [Act.put, nS]; rfl) ?_
             refine pA 6 (some 85) rfl rfl (by intro w'; go_simp; with_reducible rfl) (by simp only [Act.put, nS]; rfl) ?_
             refine pA 7 (some 86) rfl rfl (by intro w'; go_simp; with_reducible rfl) (by simp only [Act.put, nS]; rfl) ?_
             refine pA 8 (some 87) rfl rfl (by intro w'; go_simp; with_reducible rfl) (by simp only [Act.put, nS]; rfl) ?_
             refine tA 5 (some 84) rfl rfl (by rintro w' ⟨s0, s1, s2, s3, s4, s5, s6, s7, s8, s9, s10, s11, s12, s13, s14, s15, s16, s17, s18, s19, s20, s21⟩; go_simp; with_reducible rfl) hHeld (by simp only [Act.put, nS]; rfl) ?_
             refine tA 9 (some 88) rfl rfl (by rintro w' ⟨s0, s1, s2, s3, s4, s5, s6, s7, s8, s9, s10, s11, s12, s13, s14, s15, s16, s17, s18, s19, s20, s21⟩; go_simp; with_reducible rfl) hHeld (by simp only [Act.put, nS]; rfl) ?_
             refine oA 10 (some 89) rfl rfl (fun K hK => ?_)
             refine goes_ Try.func39 (by kernel_rfl) rfl #[.agg #[.string a0, .int .i64 a1, .int .i64 a2, .int .i64 a3, .int .i64 a4, .int .i64 a5, .int .i64 a6, .int .i64 a7, .string a8, .int .i64 a9, .slice aA a10.length ac], .agg #[.string b0, .int .i64 b1, .int .i64 b2, .int .i64 b3, .int .i64 b4, .int .i64 b5, .int .i64 b6, .int .i64 b7, .string b8, .int .i64 b9, .slice vA b10.length vc]] (by rfl) rfl rfl (by simp only [List.map_toArray, List.map_cons, List.map_nil]; rfl) ?_
             with_reducible refine (SamePatch_x a0 a1 a2 a3 a4 a5 a6 a7 a8 a9 a10 aA ac b0 b1 b2 b3 b4 b5 b6 b7 b8 b9 b10 vA vc _ HaC.out HaL.out HvC.out HvL.out HF6.out).mono ?_
             rintro e wx ⟨rfl, hb⟩
             refine ⟨_, rfl, ?_⟩
             have HBx := Lib.hid (HBd.out.trans (hb.mono HBd.out.size)); have hbx := Lib.hid hb; clear hb
             refine hK.out _ _ ⟨(hbx.out.cell (World.block_lt_of_cell? _ _ ax0)).trans ax0, (hbx.out.cell (World.block_lt_of_cell? _ _ ax1)).trans ax1, (hbx.out.cell (World.block_lt_of_cell? _ _ ax2)).trans ax2, (hbx.out.cell (World.block_lt_of_cell? _ _ ax3)).trans ax3, (hbx.out.cell (World.block_lt_of_cell? _ _ ax4)).trans ax4, (hbx.out.cell (World.block_lt_of_cell? _ _ ax5)).trans ax5, (hbx.out.cell (World.block_lt_of_cell? _ _ ax6)).trans ax6, (hbx.out.cell (World.block_lt_of_cell? _ _ ax7)).trans ax7, (hbx.out.cell (World.block_lt_of_cell? _ _ ax8)).trans ax8, (hbx.out.cell (World.block_lt_of_cell? _ _ ax9)).trans ax9, (hbx.out.cell (World.block_lt_of_cell? _ _ ax10)).trans ax10, (hbx.out.cell (World.block_lt_of_cell? _ _ vx0)).trans vx0, (hbx.out.cell (World.block_lt_of_cell? _ _ vx1)).trans vx1, (hbx.out.cell (World.block_lt_of_cell? _ _ vx2)).trans vx2, (hbx.out.cell (World.block_lt_of_cell? _ _ vx3)).trans vx3, (hbx.out.cell (World.block_lt_of_cell? _ _ vx4)).trans vx4, (hbx.out.cell (World.block_lt_of_cell? _ _ vx5)).trans vx5, (hbx.out.cell (World.block_lt_of_cell? _ _ vx6)).trans vx6, (hbx.out.cell (World.block_lt_of_cell? _ _ vx7)).trans vx7, (hbx.out.cell (World.block_lt_of_cell? _ _ vx8)).trans vx8, (hbx.out.cell (World.block_lt_of_cell? _ _ vx9)).trans vx9, (hbx.out.cell (World.block_lt_of_cell? _ _ vx10)).trans vx10⟩ (fun hHeld => norm_ (by show Act.put _ (some 89) _ = _; simp only [Act.put, nS]; rfl) ?_)
             clear hK K
             refine pA 11 (some 90) rfl rfl (by intro w'; go_simp; with_reducible rfl) (by simp only [Act.put, nS]; rfl) ?_
             refine pA 12 (some 14) rfl rfl (by intro w'; go_simp; with_reducible rfl) (by simp only [Act.put, nS]; rfl) ?_
             refine done_ (by kernel_rfl) ?_
             go_wp2
             go_meet
             exact ⟨by rw [HT0.out, HP0.out]; simp, HBx.out⟩
          case rest =>
           obtain ⟨rfl, hbx⟩ := hcut
           have HBX := Lib.hid hbx
           clear hbx HB8 HBK
           rw [← HTH.out]
           go_upto_block 4 with fail
           go_wp2
           go_loopg [16, 17] (i + 2) (fun kq v16 v17 w' => ∃ (j : Nat) (m : Int), v17 = .int .i64 (j : Int) ∧ v16 = .int .i64 m ∧ NewTo most P t0 j m ∧ j + kq = i + 2 ∧ j ≤ i + 1 ∧ Below W7.heap.size W7 w')
           case atStart => exact ⟨0, -1, rfl, rfl, NewTo.zero _ _ _, by omega, by omega, HBX.out⟩
           case round =>
            clear HBX
            obtain ⟨j, m, rfl, rfl, hnw, hjk, hji, hbj⟩ := hrel
            have HJJ := Lib.hid (show j + gk = i + 2 ∧ j ≤ i + 1 from ⟨hjk, hji⟩)
            have HNW := Lib.hid hnw
            have HBJ := Lib.hid hbj.drew
            have HPJ := Lib.hid (HP7.out.below HBJ.out)
            by_cases c2 : j ≤ i
            · have d3 : decide ((j : Int) ≤ (i : Int)) = true := decide_eq_true (by omega)
              obtain ⟨y, hy⟩ : ∃ x, P[j]? = some x := ⟨P[j]'(by have := HJL.out; omega), List.getElem?_eq_getElem _⟩
              have hym := HMADE.out y (List.mem_of_getElem? hy)
              obtain ⟨ey, hey⟩ : ∃ x, x = EncB y := ⟨_, rfl⟩
              obtain ⟨y0, hy0⟩ : ∃ x, x = y := ⟨_, rfl⟩
              have HY := Lib.hid hy
              have HYK := Lib.hid (made_pk hym)
              have HEY := Lib.hid hey
              have HY0 := Lib.hid hy0
              have l1 : ((0 : Int) ≤ (j : Int)) = True := eq_true (by omega)
              have l2 : ((j : Int) < (P.length : Int)) = True := eq_true (by have := HJL.out; omega)
              have HGW1 := Lib.hid (show wrap64 ((j : Int) + 1) = ((j + 1 : Nat) : Int) from by rw [rl64 (by have := HJL.out; have := HFEW.out; omega) (by have := HJL.out; have := HFEW.out; omega)]; omega)
              clear hy hym hey hy0 hnw hjk hji hbj
              obtain ⟨o0, o1, ⟨o2, o3, o4⟩, ⟨o5, o6, o7⟩, o8, o9, o10⟩ := y
              cases gk with
              | zero => exact absurd HJJ.out (by omega)
              | succ kC =>
                go_upto_region 26 with fail
                obtain ⟨aA, ac, har, hal, haC⟩ := elem55C (Kd.C_below HTC.out HBJ.out) HTX.out
                simp only at har hal haC
                have HaR := Lib.hid har
                have HaL := Lib.hid hal
                have HaC := Lib.hid haC
                clear har hal haC
                obtain ⟨dA, dc, hdr, hdl, hdC⟩ := elem55C HPJ.out.c HY.out
                simp only at hdr hdl hdC
                have HdR := Lib.hid hdr
                have HdL := Lib.hid hdl
                have HdC := Lib.hid hdC
                clear hdr hdl hdC
                have ax0 := HaR.out 0 _ rfl
                have ax1 := HaR.out 1 _ rfl
                have ax2 := HaR.out 2 _ rfl
                have ax3 := HaR.out 3 _ rfl
                have ax4 := HaR.out 4 _ rfl
                have ax5 := HaR.out 5 _ rfl
                have ax6 := HaR.out 6 _ rfl
                have ax7 := HaR.out 7 _ rfl
                have ax8 := HaR.out 8 _ rfl
                have ax9 := HaR.out 9 _ rfl
                have ax10 := HaR.out 10 _ rfl
                rw [Nat.add_zero] at ax0
                have dx0 := HdR.out 0 _ rfl
                have dx1 := HdR.out 1 _ rfl
                have dx2 := HdR.out 2 _ rfl
                have dx3 := HdR.out 3 _ rfl
                have dx4 := HdR.out 4 _ rfl
                have dx5 := HdR.out 5 _ rfl
                have dx6 := HdR.out 6 _ rfl
                have dx7 := HdR.out 7 _ rfl
                have dx8 := HdR.out 8 _ rfl
                have dx9 := HdR.out 9 _ rfl
                have dx10 := HdR.out 10 _ rfl
                rw [Nat.add_zero] at dx0
                cases cN : eqN (⟨o0, o1, ⟨o2, o3, o4⟩, ⟨o5, o6, o7⟩, o8, o9, o10⟩ : S55) (⟨a0, a1, ⟨a2, a3, a4⟩, ⟨a5, a6, a7⟩, a8, a9, a10⟩ : S55) with
                | false =>
                  have HCN := Lib.hid cN
                  clear cN
                  refine start_ (n := 19) (S := fun w' => w'.cell? ⟨ga, j * 11, none⟩ = some (.string o0) ∧ w'.cell? ⟨ga, j * 11 + 1, none⟩ = some (.int .i64 o1) ∧ w'.cell? ⟨ga, j * 11 + 2, none⟩ = some (.int .i64 o2) ∧ w'.cell? ⟨ga, j * 11 + 3, none⟩ = some (.int .i64 o3) ∧ w'.cell? ⟨ga, j * 11 + 4, none⟩ = some (.int .i64 o4) ∧ w'.cell? ⟨ga, j * 11 + 5, none⟩ = some (.int .i64 o5) ∧ w'.cell? ⟨ga, j * 11 + 6, none⟩ = some (.int .i64 o6) ∧ w'.cell? ⟨ga, j * 11 + 7, none⟩ = some (.int .i64 o7) ∧ w'.cell? ⟨ga, j * 11 + 8, none⟩ = some (.string o8) ∧ w'.cell? ⟨ga, j * 11 + 9, none⟩ = some (.int .i64 o9) ∧ w'.cell? ⟨ga, j * 11 + 10, none⟩ = some (.slice dA o10.length dc) ∧ w'.cell? ⟨gt, k * 11, none⟩ = some (.string a0) ∧ w'.cell? ⟨gt, k * 11 + 1, none⟩ = some (.int .i64 a1) ∧ w'.cell? ⟨gt, k * 11 + 2, none⟩ = some (.int .i64 a2) ∧ w'.cell? ⟨gt, k * 11 + 3, none⟩ = some (.int .i64 a3) ∧ w'.cell? ⟨gt, k * 11 + 4, none⟩ = some (.int .i64 a4) ∧ w'.cell? ⟨gt, k * 11 + 5, none⟩ = some (.int .i64 a5) ∧ w'.cell? ⟨gt, k * 11 + 6, none⟩ = some (.int .i64 a6) ∧ w'.cell? ⟨gt, k * 11 + 7, none⟩ = some (.int .i64 a7) ∧ w'.cell? ⟨gt, k * 11 + 8, none⟩ = some (.string a8) ∧ w'.cell? ⟨gt, k * 11 + 9, none⟩ = some (.int .i64 a9) ∧ w'.cell? ⟨gt, k * 11 + 10, none⟩ = some (.slice aA a10.length ac)) (ds := []) #[false, false, false, false, false, false, false, false, false, false, false, false, false, false, false, false, false, false, false] (by kernel_rfl) rfl rfl ⟨dx0, dx1, dx2, dx3, dx4, dx5, dx6, dx7, dx8, dx9, dx10, ax0, ax1, ax2, ax3, ax4, ax5, ax6, ax7, ax8, ax9, ax10⟩ (fun hHeld => ?_)
                  generalize wr.drew = wd at HBJ HPJ HaC HdC ax0 ax1 ax2 ax3 ax4 ax5 ax6 ax7 ax8 ax9 ax10 dx0 dx1 dx2 dx3 dx4 dx5 dx6 dx7 dx8 dx9 dx10 hHeld ⊢; have HX3 := Lib.hid (Below.refl wd.heap.size wd)
                  refine pA 0 (some 96) rfl rfl (by intro w'; go_simp; with_reducible rfl) (by simp only [Act.put, nS]; rfl) ?_
                  refine pA 1 (some 97) rfl rfl (by intro w'; go_simp; with_reducible rfl) (by simp only [Act.put, nS]; rfl) ?_
                  refine pA 2 (some 98) rfl rfl (by intro w'; go_simp; with_reducible rfl) (by simp only [Act.put, nS]; rfl) ?_
                  refine pA 4 (some 100) rfl rfl (by intro w'; go_simp; with_reducible rfl) (by simp only [Act.put, nS]; rfl) ?_
                  refine pA 5 (some 101) rfl rfl (by intro w'; go_simp; with_reducible rfl) (by simp only [Act.put, nS]; rfl) ?_
                  refine pA 6 (some 102) rfl rfl (by intro w'; go_simp; with_reducible rfl) (by simp only [Act.put, nS]; rfl) ?_
                  refine tA 3 (some 99) rfl rfl (by rintro w' ⟨s0, s1, s2, s3, s4, s5, s6, s7, s8, s9, s10, s11, s12, s13, s14, s15, s16, s17, s18, s19, s20, s21⟩; go_simp; with_reducible rfl) hHeld (by simp only [Act.put, nS]; rfl) ?_
                  refine tA 7 (some 103) rfl rfl (by rintro w' ⟨s0, s1, s2, s3, s4, s5, s6, s7, s8, s9, s10, s11, s12, s13, s14, s15, s16, s17, s18, s19, s20, s21⟩; go_simp; with_reducible rfl) hHeld (by simp only [Act.put, nS]; rfl) ?_
                  refine oA 8 (some 104) rfl rfl (fun K hK => ?_)
                  refine goes_ Try.func40 (by kernel_rfl) rfl #[.agg #[.string o0, .int .i64 o1, .int .i64 o2, .int .i64 o3, .int .i64 o4, .int .i64 o5, .int .i64 o6, .int .i64 o7, .string o8, .int .i64 o9, .slice dA o10.length dc], .agg #[.string a0, .int .i64 a1, .int .i64 a2, .int .i64 a3, .int .i64 a4, .int .i64 a5, .int .i64 a6, .int .i64 a7, .string a8, .int .i64 a9, .slice aA a10.length ac]] (by rfl) rfl rfl (by simp only [List.map_toArray, List.map_cons, List.map_nil]; rfl) ?_
                  with_reducible refine (Rivals_x o0 o1 o2 o3 o4 o5 o6 o7 o8 o9 o10 dA dc a0 a1 a2 a3 a4 a5 a6 a7 a8 a9 a10 aA ac _).mono ?_
                  rintro e wx ⟨rfl, hb⟩
                  refine ⟨_, rfl, ?_⟩
                  have n_ := Lib.hid (HX3.out.trans (hb.mono HX3.out.size)); clear HX3; have HX3 := n_; clear n_ hb
                  rw [HCN.out]
                  refine hK.out _ _ ⟨(HX3.out.cell (World.block_lt_of_cell? _ _ dx0)).trans dx0, (HX3.out.cell (World.block_lt_of_cell? _ _ dx1)).trans dx1, (HX3.out.cell (World.block_lt_of_cell? _ _ dx2)).trans dx2, (HX3.out.cell (World.block_lt_of_cell? _ _ dx3)).trans dx3, (HX3.out.cell (World.block_lt_of_cell? _ _ dx4)).trans dx4, (HX3.out.cell (World.block_lt_of_cell? _ _ dx5)).trans dx5, (HX3.out.cell (World.block_lt_of_cell? _ _ dx6)).trans dx6, (HX3.out.cell (World.block_lt_of_cell? _ _ dx7)).trans dx7, (HX3.out.cell (World.block_lt_of_cell? _ _ dx8)).trans dx8, (HX3.out.cell (World.block_lt_of_cell? _ _ dx9)).trans dx9, (HX3.out.cell (World.block_lt_of_cell? _ _ dx10)).trans dx10, (HX3.out.cell (World.block_lt_of_cell? _ _ ax0)).trans ax0, (HX3.out.cell (World.block_lt_of_cell? _ _ ax1)).trans ax1, (HX3.out.cell (World.block_lt_of_cell? _ _ ax2)).trans ax2, (HX3.out.cell (World.block_lt_of_cell? _ _ ax3)).trans ax3, (HX3.out.cell (World.block_lt_of_cell? _ _ ax4)).trans ax4, (HX3.out.cell (World.block_lt_of_cell? _ _ ax5)).trans ax5, (HX3.out.cell (World.block_lt_of_cell? _ _ ax6)).trans ax6, (HX3.out.cell (World.block_lt_of_cell? _ _ ax7)).trans ax7, (HX3.out.cell (World.block_lt_of_cell? _ _ ax8)).trans ax8, (HX3.out.cell (World.block_lt_of_cell? _ _ ax9)).trans ax9, (HX3.out.cell (World.block_lt_of_cell? _ _ ax10)).trans ax10⟩ (fun hHeld => norm_ (by show Act.put _ (some 104) _ = _; simp only [Act.put, nS]; rfl) ?_)
                  clear hK K
                  refine pA 9 (some 105) rfl rfl (by intro w'; go_simp; with_reducible rfl) (by simp only [Act.put, nS]; rfl) ?_
                  refine pU 10 (some 106) rfl rfl (by simp only [Act.put, nS]; rfl) ?_
                  refine pU 11 (some 107) rfl rfl (by simp only [Act.put, nS]; rfl) ?_
                  refine pU 12 (some 108) rfl rfl (by simp only [Act.put, nS]; rfl) ?_
                  refine pU 13 (some 109) rfl rfl (by simp only [Act.put, nS]; rfl) ?_
                  refine pU 14 (some 110) rfl rfl (by simp only [Act.put, nS]; rfl) ?_
                  refine pU 15 (some 111) rfl rfl (by simp only [Act.put, nS]; rfl) ?_
                  refine pU 16 (some 112) rfl rfl (by simp only [Act.put, nS]; rfl) ?_
                  refine pU 17 (some 113) rfl rfl (by simp only [Act.put, nS]; rfl) ?_
                  refine pA 18 (some 114) rfl rfl (by intro w'; go_simp; with_reducible rfl) (by simp only [Act.put, nS]; rfl) ?_
                  refine done_ (by kernel_rfl) ?_
                  go_wp2
                  go_roundg kC
                  case measure => omega
                  case rel => exact ⟨j + 1, m, by first | rw [HGW1.out] | rfl, rfl, HNW.out.skip HY.out (fun h => by rw [HT0.out, HCN.out] at h; cases h), by have := HJJ.out; omega, by have := HJJ.out; omega, HBJ.out.trans (HX3.out.mono HBJ.out.size)⟩
                | true =>
                  have HCN := Lib.hid cN
                  clear cN
                  by_cases c3 : (ey.size : Int) ≤ most
                  · have dq4 : decide ((ey.size : Int) ≤ most) = true := decide_eq_true c3
                    have HC3 := Lib.hid c3
                    clear c3
                    refine start_ (n := 19) (S := fun w' => w'.cell? ⟨ga, j * 11, none⟩ = some (.string o0) ∧ w'.cell? ⟨ga, j * 11 + 1, none⟩ = some (.int .i64 o1) ∧ w'.cell? ⟨ga, j * 11 + 2, none⟩ = some (.int .i64 o2) ∧ w'.cell? ⟨ga, j * 11 + 3, none⟩ = some (.int .i64 o3) ∧ w'.cell? ⟨ga, j * 11 + 4, none⟩ = some (.int .i64 o4) ∧ w'.cell? ⟨ga, j * 11 + 5, none⟩ = some (.int .i64 o5) ∧ w'.cell? ⟨ga, j * 11 + 6, none⟩ = some (.int .i64 o6) ∧ w'.cell? ⟨ga, j * 11 + 7, none⟩ = some (.int .i64 o7) ∧ w'.cell? ⟨ga, j * 11 + 8, none⟩ = some (.string o8) ∧ w'.cell? ⟨ga, j * 11 + 9, none⟩ = some (.int .i64 o9) ∧ w'.cell? ⟨ga, j * 11 + 10, none⟩ = some (.slice dA o10.length dc) ∧ w'.cell? ⟨gt, k * 11, none⟩ = some (.string a0) ∧ w'.cell? ⟨gt, k * 11 + 1, none⟩ = some (.int .i64 a1) ∧ w'.cell? ⟨gt, k * 11 + 2, none⟩ = some (.int .i64 a2) ∧ w'.cell? ⟨gt, k * 11 + 3, none⟩ = some (.int .i64 a3) ∧ w'.cell? ⟨gt, k * 11 + 4, none⟩ = some (.int .i64 a4) ∧ w'.cell? ⟨gt, k * 11 + 5, none⟩ = some (.int .i64 a5) ∧ w'.cell? ⟨gt, k * 11 + 6, none⟩ = some (.int .i64 a6) ∧ w'.cell? ⟨gt, k * 11 + 7, none⟩ = some (.int .i64 a7) ∧ w'.cell? ⟨gt, k * 11 + 8, none⟩ = some (.string a8) ∧ w'.cell? ⟨gt, k * 11 + 9, none⟩ = some (.int .i64 a9) ∧ w'.cell? ⟨gt, k * 11 + 10, none⟩ = some (.slice aA a10.length ac)) (ds := []) #[false, false, false, false, false, false, false, false, false, false, false, false, false, false, false, false, false, false, false] (by kernel_rfl) rfl rfl ⟨dx0, dx1, dx2, dx3, dx4, dx5, dx6, dx7, dx8, dx9, dx10, ax0, ax1, ax2, ax3, ax4, ax5, ax6, ax7, ax8, ax9, ax10⟩ (fun hHeld => ?_)
                    generalize wr.drew = wd at HBJ HPJ HaC HdC ax0 ax1 ax2 ax3 ax4 ax5 ax6 ax7 ax8 ax9 ax10 dx0 dx1 dx2 dx3 dx4 dx5 dx6 dx7 dx8 dx9 dx10 hHeld ⊢; have HX3 := Lib.hid (Below.refl wd.heap.size wd)
                    refine pA 0 (some 96) rfl rfl (by intro w'; go_simp; with_reducible rfl) (by simp only [Act.put, nS]; rfl) ?_
                    refine pA 1 (some 97) rfl rfl (by intro w'; go_simp; with_reducible rfl) (by simp only [Act.put, nS]; rfl) ?_
                    refine pA 2 (some 98) rfl rfl (by intro w'; go_simp; with_reducible rfl) (by simp only [Act.put, nS]; rfl) ?_
                    refine pA 4 (some 100) rfl rfl (by intro w'; go_simp; with_reducible rfl) (by simp only [Act.put, nS]; rfl) ?_
                    refine pA 5 (some 101) rfl rfl (by intro w'; go_simp; with_reducible rfl) (by simp only [Act.put, nS]; rfl) ?_
                    refine pA 6 (some 102) rfl rfl (by intro w'; go_simp; with_reducible rfl) (by simp only [Act.put, nS]; rfl) ?_
                    refine tA 3 (some 99) rfl rfl (by rintro w' ⟨s0, s1, s2, s3, s4, s5, s6, s7, s8, s9, s10, s11, s12, s13, s14, s15, s16, s17, s18, s19, s20, s21⟩; go_simp; with_reducible rfl) hHeld (by simp only [Act.put, nS]; rfl) ?_
                    refine tA 7 (some 103) rfl rfl (by rintro w' ⟨s0, s1, s2, s3, s4, s5, s6, s7, s8, s9, s10, s11, s12, s13, s14, s15, s16, s17, s18, s19, s20, s21⟩; go_simp; with_reducible rfl) hHeld (by simp only [Act.put, nS]; rfl) ?_
                    refine oA 8 (some 104) rfl rfl (fun K hK => ?_)
                    refine goes_ Try.func40 (by kernel_rfl) rfl #[.agg #[.string o0, .int .i64 o1, .int .i64 o2, .int .i64 o3, .int .i64 o4, .int .i64 o5, .int .i64 o6, .int .i64 o7, .string o8, .int .i64 o9, .slice dA o10.length dc], .agg #[.string a0, .int .i64 a1, .int .i64 a2, .int .i64 a3, .int .i64 a4, .int .i64 a5, .int .i64 a6, .int .i64 a7, .string a8, .int .i64 a9, .slice aA a10.length ac]] (by rfl) rfl rfl (by simp only [List.map_toArray, List.map_cons, List.map_nil]; rfl) ?_
                    with_reducible refine (Rivals_x o0 o1 o2 o3 o4 o5 o6 o7 o8 o9 o10 dA dc a0 a1 a2 a3 a4 a5 a6 a7 a8 a9 a10 aA ac _).mono ?_
                    rintro e wx ⟨rfl, hb⟩
                    refine ⟨_, rfl, ?_⟩
                    have n_ := Lib.hid (HX3.out.trans (hb.mono HX3.out.size)); clear HX3; have HX3 := n_; clear n_ hb
                    rw [HCN.out]
                    refine hK.out _ _ ⟨(HX3.out.cell (World.block_lt_of_cell? _ _ dx0)).trans dx0, (HX3.out.cell (World.block_lt_of_cell? _ _ dx1)).trans dx1, (HX3.out.cell (World.block_lt_of_cell? _ _ dx2)).trans dx2, (HX3.out.cell (World.block_lt_of_cell? _ _ dx3)).trans dx3, (HX3.out.cell (World.block_lt_of_cell? _ _ dx4)).trans dx4, (HX3.out.cell (World.block_lt_of_cell? _ _ dx5)).trans dx5, (HX3.out.cell (World.block_lt_of_cell? _ _ dx6)).trans dx6, (HX3.out.cell (World.block_lt_of_cell? _ _ dx7)).trans dx7, (HX3.out.cell (World.block_lt_of_cell? _ _ dx8)).trans dx8, (HX3.out.cell (World.block_lt_of_cell? _ _ dx9)).trans dx9, (HX3.out.cell (World.block_lt_of_cell? _ _ dx10)).trans dx10, (HX3.out.cell (World.block_lt_of_cell? _ _ ax0)).trans ax0, (HX3.out.cell (World.block_lt_of_cell? _ _ ax1)).trans ax1, (HX3.out.cell (World.block_lt_of_cell? _ _ ax2)).trans ax2, (HX3.out.cell (World.block_lt_of_cell? _ _ ax3)).trans ax3, (HX3.out.cell (World.block_lt_of_cell? _ _ ax4)).trans ax4, (HX3.out.cell (World.block_lt_of_cell? _ _ ax5)).trans ax5, (HX3.out.cell (World.block_lt_of_cell? _ _ ax6)).trans ax6, (HX3.out.cell (World.block_lt_of_cell? _ _ ax7)).trans ax7, (HX3.out.cell (World.block_lt_of_cell? _ _ ax8)).trans ax8, (HX3.out.cell (World.block_lt_of_cell? _ _ ax9)).trans ax9, (HX3.out.cell (World.block_lt_of_cell? _ _ ax10)).trans ax10⟩ (fun hHeld => norm_ (by show Act.put _ (some 104) _ = _; simp only [Act.put, nS]; rfl) ?_)
                    clear hK K
                    refine pA 9 (some 105) rfl rfl (by intro w'; go_simp; with_reducible rfl) (by simp only [Act.put, nS]; rfl) ?_
                    refine pA 10 (some 106) rfl rfl (by intro w'; go_simp; with_reducible rfl) (by simp only [Act.put, nS]; rfl) ?_
                    refine pA 11 (some 107) rfl rfl (by intro w'; go_simp; with_reducible rfl) (by simp only [Act.put, nS]; rfl) ?_
                    refine pA 12 (some 108) rfl rfl (by intro w'; go_simp; with_reducible rfl) (by simp only [Act.put, nS]; rfl) ?_
                    refine pA 16 (some 112) rfl rfl (by intro w'; go_simp; with_reducible rfl) (by simp only [Act.put, nS]; rfl) ?_
                    refine tA 13 (some 109) rfl rfl (by rintro w' ⟨s0, s1, s2, s3, s4, s5, s6, s7, s8, s9, s10, s11, s12, s13, s14, s15, s16, s17, s18, s19, s20, s21⟩; go_simp; with_reducible rfl) hHeld (by simp only [Act.put, nS]; rfl) ?_
                    refine oA 14 (some 110) rfl rfl (fun K hK => ?_)
                    refine goes_ Try.func37 (by kernel_rfl) rfl #[.agg #[.string o0, .int .i64 o1, .int .i64 o2, .int .i64 o3, .int .i64 o4, .int .i64 o5, .int .i64 o6, .int .i64 o7, .string o8, .int .i64 o9, .slice dA o10.length dc]] (by rfl) rfl rfl (by simp only [List.map_toArray, List.map_cons, List.map_nil]; rfl) ?_
                    with_reducible refine (enc_x o0 o1 o2 o3 o4 o5 o6 o7 o8 o9 o10 dA dc ey _ HYK.out (Kd.C_below HdC.out HX3.out) HdL.out HEY.out.symm).mono ?_
                    rintro e wy ⟨rfl, hb⟩
                    refine ⟨_, rfl, ?_⟩
                    have n_ := Lib.hid (HX3.out.trans (hb.mono HX3.out.size)); clear HX3; have HX3 := n_; clear n_ hb
                    refine hK.out _ _ ⟨(HX3.out.cell (World.block_lt_of_cell? _ _ dx0)).trans dx0, (HX3.out.cell (World.block_lt_of_cell? _ _ dx1)).trans dx1, (HX3.out.cell (World.block_lt_of_cell? _ _ dx2)).trans dx2, (HX3.out.cell (World.block_lt_of_cell? _ _ dx3)).trans dx3, (HX3.out.cell (World.block_lt_of_cell? _ _ dx4)).trans dx4, (HX3.out.cell (World.block_lt_of_cell? _ _ dx5)).trans dx5, (HX3.out.cell (World.block_lt_of_cell? _ _ dx6)).trans dx6, (HX3.out.cell (World.block_lt_of_cell? _ _ dx7)).trans dx7, (HX3.out.cell (World.block_lt_of_cell? _ _ dx8)).trans dx8, (HX3.out.cell (World.block_lt_of_cell? _ _ dx9)).trans dx9, (HX3.out.cell (World.block_lt_of_cell? _ _ dx10)).trans dx10, (HX3.out.cell (World.block_lt_of_cell? _ _ ax0)).trans ax0, (HX3.out.cell (World.block_lt_of_cell? _ _ ax1)).trans ax1, (HX3.out.cell (World.block_lt_of_cell? _ _ ax2)).trans ax2, (HX3.out.cell (World.block_lt_of_cell? _ _ ax3)).trans ax3, (HX3.out.cell (World.block_lt_of_cell? _ _ ax4)).trans ax4, (HX3.out.cell (World.block_lt_of_cell? _ _ ax5)).trans ax5, (HX3.out.cell (World.block_lt_of_cell? _ _ ax6)).trans ax6, (HX3.out.cell (World.block_lt_of_cell? _ _ ax7)).trans ax7, (HX3.out.cell (World.block_lt_of_cell? _ _ ax8)).trans ax8, (HX3.out.cell (World.block_lt_of_cell? _ _ ax9)).trans ax9, (HX3.out.cell (World.block_lt_of_cell? _ _ ax10)).trans ax10⟩ (fun hHeld => norm_ (by show Act.put _ (some 110) _ = _; simp only [Act.put, nS]; rfl) ?_)
                    clear hK K
                    refine pA 15 (some 111) rfl rfl (by intro w'; go_simp; with_reducible rfl) (by simp only [Act.put, nS]; rfl) ?_
                    refine pA 17 (some 113) rfl rfl (by intro w'; go_simp; with_reducible rfl) (by simp only [Act.put, nS]; rfl) ?_
                    refine pA 18 (some 114) rfl rfl (by intro w'; go_simp; with_reducible rfl) (by simp only [Act.put, nS]; rfl) ?_
                    refine done_ (by kernel_rfl) ?_
                    go_wp2
                    go_roundg kC
                    case measure => omega
                    case rel => exact ⟨j + 1, (j : Int), by first | rw [HGW1.out] | rfl, rfl, NewTo.take HY.out (by rw [HT0.out]; exact HCN.out) (by have := HC3.out; unfold szP; rw [← HEY.out]; exact this), by have := HJJ.out; omega, by have := HJJ.out; omega, HBJ.out.trans (HX3.out.mono HBJ.out.size)⟩
                  · have dq4 : decide ((ey.size : Int) ≤ most) = false := decide_eq_false c3
                    have HC3 := Lib.hid c3
                    clear c3
                    refine start_ (n := 19) (S := fun w' => w'.cell? ⟨ga, j * 11, none⟩ = some (.string o0) ∧ w'.cell? ⟨ga, j * 11 + 1, none⟩ = some (.int .i64 o1) ∧ w'.cell? ⟨ga, j * 11 + 2, none⟩ = some (.int .i64 o2) ∧ w'.cell? ⟨ga, j * 11 + 3, none⟩ = some (.int .i64 o3) ∧ w'.cell? ⟨ga, j * 11 + 4, none⟩ = some (.int .i64 o4) ∧ w'.cell? ⟨ga, j * 11 + 5, none⟩ = some (.int .i64 o5) ∧ w'.cell? ⟨ga, j * 11 + 6, none⟩ = some (.int .i64 o6) ∧ w'.cell? ⟨ga, j * 11 + 7, none⟩ = some (.int .i64 o7) ∧ w'.cell? ⟨ga, j * 11 + 8, none⟩ = some (.string o8) ∧ w'.cell? ⟨ga, j * 11 + 9, none⟩ = some (.int .i64 o9) ∧ w'.cell? ⟨ga, j * 11 + 10, none⟩ = some (.slice dA o10.length dc) ∧ w'.cell? ⟨gt, k * 11, none⟩ = some (.string a0) ∧ w'.cell? ⟨gt, k * 11 + 1, none⟩ = some (.int .i64 a1) ∧ w'.cell? ⟨gt, k * 11 + 2, none⟩ = some (.int .i64 a2) ∧ w'.cell? ⟨gt, k * 11 + 3, none⟩ = some (.int .i64 a3) ∧ w'.cell? ⟨gt, k * 11 + 4, none⟩ = some (.int .i64 a4) ∧ w'.cell? ⟨gt, k * 11 + 5, none⟩ = some (.int .i64 a5) ∧ w'.cell? ⟨gt, k * 11 + 6, none⟩ = some (.int .i64 a6) ∧ w'.cell? ⟨gt, k * 11 + 7, none⟩ = some (.int .i64 a7) ∧ w'.cell? ⟨gt, k * 11 + 8, none⟩ = some (.string a8) ∧ w'.cell? ⟨gt, k * 11 + 9, none⟩ = some (.int .i64 a9) ∧ w'.cell? ⟨gt, k * 11 + 10, none⟩ = some (.slice aA a10.length ac)) (ds := []) #[false, false, false, false, false, false, false, false, false, false, false, false, false, false, false, false, false, false, false] (by kernel_rfl) rfl rfl ⟨dx0, dx1, dx2, dx3, dx4, dx5, dx6, dx7, dx8, dx9, dx10, ax0, ax1, ax2, ax3, ax4, ax5, ax6, ax7, ax8, ax9, ax10⟩ (fun hHeld => ?_)
                    generalize wr.drew = wd at HBJ HPJ HaC HdC ax0 ax1 ax2 ax3 ax4 ax5 ax6 ax7 ax8 ax9 ax10 dx0 dx1 dx2 dx3 dx4 dx5 dx6 dx7 dx8 dx9 dx10 hHeld ⊢; have HX3 := Lib.hid (Below.refl wd.heap.size wd)
                    refine pA 0 (some 96) rfl rfl (by intro w'; go_simp; with_reducible rfl) (by simp only [Act.put, nS]; rfl) ?_
                    refine pA 1 (some 97) rfl rfl (by intro w'; go_simp; with_reducible rfl) (by simp only [Act.put, nS]; rfl) ?_
                    refine pA 2 (some 98) rfl rfl (by intro w'; go_simp; with_reducible rfl) (by simp only [Act.put, nS]; rfl) ?_
                    refine pA 4 (some 100) rfl rfl (by intro w'; go_simp; with_reducible rfl) (by simp only [Act.put, nS]; rfl) ?_
                    refine pA 5 (some 101) rfl rfl (by intro w'; go_simp; with_reducible rfl) (by simp only [Act.put, nS]; rfl) ?_
                    refine pA 6 (some 102) rfl rfl (by intro w'; go_simp; with_reducible rfl) (by simp only [Act.put, nS]; rfl) ?_
                    refine tA 3 (some 99) rfl rfl (by rintro w' ⟨s0, s1, s2, s3, s4, s5, s6, s7, s8, s9, s10, s11, s12, s13, s14, s15, s16, s17, s18, s19, s20, s21⟩; go_simp; with_reducible rfl) hHeld (by simp only [Act.put, nS]; rfl) ?_
                    refine tA 7 (some 103) rfl rfl (by rintro w' ⟨s0, s1, s2, s3, s4, s5, s6, s7, s8, s9, s10, s11, s12, s13, s14, s15, s16, s17, s18, s19, s20, s21⟩; go_simp; with_reducible rfl) hHeld (by simp only [Act.put, nS]; rfl) ?_
                    refine oA 8 (some 104) rfl rfl (fun K hK => ?_)
                    refine goes_ Try.func40 (by kernel_rfl) rfl #[.agg #[.string o0, .int .i64 o1, .int .i64 o2, .int .i64 o3, .int .i64 o4, .int .i64 o5, .int .i64 o6, .int .i64 o7, .string o8, .int .i64 o9, .slice dA o10.length dc], .agg #[.string a0, .int .i64 a1, .int .i64 a2, .int .i64 a3, .int .i64 a4, .int .i64 a5, .int .i64 a6, .int .i64 a7, .string a8, .int .i64 a9, .slice aA a10.length ac]] (by rfl) rfl rfl (by simp only [List.map_toArray, List.map_cons, List.map_nil]; rfl) ?_
                    with_reducible refine (Rivals_x o0 o1 o2 o3 o4 o5 o6 o7 o8 o9 o10 dA dc a0 a1 a2 a3 a4 a5 a6 a7 a8 a9 a10 aA ac _).mono ?_
                    rintro e wx ⟨rfl, hb⟩
                    refine ⟨_, rfl, ?_⟩
                    have n_ := Lib.hid (HX3.out.trans (hb.mono HX3.out.size)); clear HX3; have HX3 := n_; clear n_ hb
                    rw [HCN.out]
                    refine hK.out _ _ ⟨(HX3.out.cell (World.block_lt_of_cell? _ _ dx0)).trans dx0, (HX3.out.cell (World.block_lt_of_cell? _ _ dx1)).trans dx1, (HX3.out.cell (World.block_lt_of_cell? _ _ dx2)).trans dx2, (HX3.out.cell (World.block_lt_of_cell? _ _ dx3)).trans dx3, (HX3.out.cell (World.block_lt_of_cell? _ _ dx4)).trans dx4, (HX3.out.cell (World.block_lt_of_cell? _ _ dx5)).trans dx5, (HX3.out.cell (World.block_lt_of_cell? _ _ dx6)).trans dx6, (HX3.out.cell (World.block_lt_of_cell? _ _ dx7)).trans dx7, (HX3.out.cell (World.block_lt_of_cell? _ _ dx8)).trans dx8, (HX3.out.cell (World.block_lt_of_cell? _ _ dx9)).trans dx9, (HX3.out.cell (World.block_lt_of_cell? _ _ dx10)).trans dx10, (HX3.out.cell (World.block_lt_of_cell? _ _ ax0)).trans ax0, (HX3.out.cell (World.block_lt_of_cell? _ _ ax1)).trans ax1, (HX3.out.cell (World.block_lt_of_cell? _ _ ax2)).trans ax2, (HX3.out.cell (World.block_lt_of_cell? _ _ ax3)).trans ax3, (HX3.out.cell (World.block_lt_of_cell? _ _ ax4)).trans ax4, (HX3.out.cell (World.block_lt_of_cell? _ _ ax5)).trans ax5, (HX3.out.cell (World.block_lt_of_cell? _ _ ax6)).trans ax6, (HX3.out.cell (World.block_lt_of_cell? _ _ ax7)).trans ax7, (HX3.out.cell (World.block_lt_of_cell? _ _ ax8)).trans ax8, (HX3.out.cell (World.block_lt_of_cell? _ _ ax9)).trans ax9, (HX3.out.cell (World.block_lt_of_cell? _ _ ax10)).trans ax10⟩ (fun hHeld => norm_ (by show Act.put _ (some 104) _ = _; simp only [Act.put, nS]; rfl) ?_)
                    clear hK K
                    refine pA 9 (some 105) rfl rfl (by intro w'; go_simp; with_reducible rfl) (by simp only [Act.put, nS]; rfl) ?_
                    refine pA 10 (some 106) rfl rfl (by intro w'; go_simp; with_reducible rfl) (by simp only [Act.put, nS]; rfl) ?_
                    refine pA 11 (some 107) rfl rfl (by intro w'; go_simp; with_reducible rfl) (by simp only [Act.put, nS]; rfl) ?_
                    refine pA 12 (some 108) rfl rfl (by intro w'; go_simp; with_reducible rfl) (by simp only [Act.put, nS]; rfl) ?_
                    refine pA 16 (some 112) rfl rfl (by intro w'; go_simp; with_reducible rfl) (by simp only [Act.put, nS]; rfl) ?_
                    refine tA 13 (some 109) rfl rfl (by rintro w' ⟨s0, s1, s2, s3, s4, s5, s6, s7, s8, s9, s10, s11, s12, s13, s14, s15, s16, s17, s18, s19, s20, s21⟩; go_simp; with_reducible rfl) hHeld (by simp only [Act.put, nS]; rfl) ?_
                    refine oA 14 (some 110) rfl rfl (fun K hK => ?_)
                    refine goes_ Try.func37 (by kernel_rfl) rfl #[.agg #[.string o0, .int .i64 o1, .int .i64 o2, .int .i64 o3, .int .i64 o4, .int .i64 o5, .int .i64 o6, .int .i64 o7, .string o8, .int .i64 o9, .slice dA o10.length dc]] (by rfl) rfl rfl (by simp only [List.map_toArray, List.map_cons, List.map_nil]; rfl) ?_
                    with_reducible refine (enc_x o0 o1 o2 o3 o4 o5 o6 o7 o8 o9 o10 dA dc ey _ HYK.out (Kd.C_below HdC.out HX3.out) HdL.out HEY.out.symm).mono ?_
                    rintro e wy ⟨rfl, hb⟩
                    refine ⟨_, rfl, ?_⟩
                    have n_ := Lib.hid (HX3.out.trans (hb.mono HX3.out.size)); clear HX3; have HX3 := n_; clear n_ hb
                    refine hK.out _ _ ⟨(HX3.out.cell (World.block_lt_of_cell? _ _ dx0)).trans dx0, (HX3.out.cell (World.block_lt_of_cell? _ _ dx1)).trans dx1, (HX3.out.cell (World.block_lt_of_cell? _ _ dx2)).trans dx2, (HX3.out.cell (World.block_lt_of_cell? _ _ dx3)).trans dx3, (HX3.out.cell (World.block_lt_of_cell? _ _ dx4)).trans dx4, (HX3.out.cell (World.block_lt_of_cell? _ _ dx5)).trans dx5, (HX3.out.cell (World.block_lt_of_cell? _ _ dx6)).trans dx6, (HX3.out.cell (World.block_lt_of_cell? _ _ dx7)).trans dx7, (HX3.out.cell (World.block_lt_of_cell? _ _ dx8)).trans dx8, (HX3.out.cell (World.block_lt_of_cell? _ _ dx9)).trans dx9, (HX3.out.cell (World.block_lt_of_cell? _ _ dx10)).trans dx10, (HX3.out.cell (World.block_lt_of_cell? _ _ ax0)).trans ax0, (HX3.out.cell (World.block_lt_of_cell? _ _ ax1)).trans ax1, (HX3.out.cell (World.block_lt_of_cell? _ _ ax2)).trans ax2, (HX3.out.cell (World.block_lt_of_cell? _ _ ax3)).trans ax3, (HX3.out.cell (World.block_lt_of_cell? _ _ ax4)).trans ax4, (HX3.out.cell (World.block_lt_of_cell? _ _ ax5)).trans ax5, (HX3.out.cell (World.block_lt_of_cell? _ _ ax6)).trans ax6, (HX3.out.cell (World.block_lt_of_cell? _ _ ax7)).trans ax7, (HX3.out.cell (World.block_lt_of_cell? _ _ ax8)).trans ax8, (HX3.out.cell (World.block_lt_of_cell? _ _ ax9)).trans ax9, (HX3.out.cell (World.block_lt_of_cell? _ _ ax10)).trans ax10⟩ (fun hHeld => norm_ (by show Act.put _ (some 110) _ = _; simp only [Act.put, nS]; rfl) ?_)
                    clear hK K
                    refine pA 15 (some 111) rfl rfl (by intro w'; go_simp; with_reducible rfl) (by simp only [Act.put, nS]; rfl) ?_
                    refine pA 17 (some 113) rfl rfl (by intro w'; go_simp; with_reducible rfl) (by simp only [Act.put, nS]; rfl) ?_
                    refine pA 18 (some 114) rfl rfl (by intro w'; go_simp; with_reducible rfl) (by simp only [Act.put, nS]; rfl) ?_
                    refine done_ (by kernel_rfl) ?_
                    go_wp2
                    go_roundg kC
                    case measure => omega
                    case rel => exact ⟨j + 1, m, by first | rw [HGW1.out] | rfl, rfl, HNW.out.skip HY.out (fun _ => by have := HC3.out; unfold szP; rw [← HEY.out]; omega), by have := HJJ.out; omega, by have := HJJ.out; omega, HBJ.out.trans (HX3.out.mono HBJ.out.size)⟩
            · have d3 : decide ((j : Int) ≤ (i : Int)) = false := decide_eq_false (by omega)
              have hji1 : j = i + 1 := by omega
              subst hji1
              obtain ⟨jm, hm, hjm, hPm⟩ := hnw.done HINV.out HTL.out
              subst hm
              rw [HT0.out] at hPm
              have HPMM := Lib.hid hPm
              have d5 : decide ((jm : Int) < 0) = false := decide_eq_false (by omega)
              have l1 : ((0 : Int) ≤ (jm : Int)) = True := eq_true (by omega)
              have l2 : ((jm : Int) < (P.length : Int)) = True := eq_true (by have := HJL.out; omega)
              clear hPm hjm hnw hjk hji hbj c2
              go_upto_region 28 with fail
              obtain ⟨aA, ac, har, hal, haC⟩ := elem55C (Kd.C_below HTC.out HBJ.out) HTX.out
              simp only at har hal haC
              have HaR := Lib.hid har
              have HaL := Lib.hid hal
              have HaC := Lib.hid haC
              clear har hal haC
              obtain ⟨dA, dc, hdr, hdl, hdC⟩ := elem55C HPJ.out.c HPMM.out
              simp only at hdr hdl hdC
              have HdR := Lib.hid hdr
              have HdL := Lib.hid hdl
              have HdC := Lib.hid hdC
              clear hdr hdl hdC
              have ax0 := HaR.out 0 _ rfl
              have ax1 := HaR.out 1 _ rfl
              have ax2 := HaR.out 2 _ rfl
              have ax3 := HaR.out 3 _ rfl
              have ax4 := HaR.out 4 _ rfl
              have ax5 := HaR.out 5 _ rfl
              have ax6 := HaR.out 6 _ rfl
              have ax7 := HaR.out 7 _ rfl
              have ax8 := HaR.out 8 _ rfl
              have ax9 := HaR.out 9 _ rfl
              have ax10 := HaR.out 10 _ rfl
              rw [Nat.add_zero] at ax0
              have dx0 := HdR.out 0 _ rfl
              have dx1 := HdR.out 1 _ rfl
              have dx2 := HdR.out 2 _ rfl
              have dx3 := HdR.out 3 _ rfl
              have dx4 := HdR.out 4 _ rfl
              have dx5 := HdR.out 5 _ rfl
              have dx6 := HdR.out 6 _ rfl
              have dx7 := HdR.out 7 _ rfl
              have dx8 := HdR.out 8 _ rfl
              have dx9 := HdR.out 9 _ rfl
              have dx10 := HdR.out 10 _ rfl
              rw [Nat.add_zero] at dx0
              refine start_ (n := 14) (S := fun w' => w'.cell? ⟨ga, jm * 11, none⟩ = some (.string a0) ∧ w'.cell? ⟨ga, jm * 11 + 1, none⟩ = some (.int .i64 a1) ∧ w'.cell? ⟨ga, jm * 11 + 2, none⟩ = some (.int .i64 a2) ∧ w'.cell? ⟨ga, jm * 11 + 3, none⟩ = some (.int .i64 a3) ∧ w'.cell? ⟨ga, jm * 11 + 4, none⟩ = some (.int .i64 a4) ∧ w'.cell? ⟨ga, jm * 11 + 5, none⟩ = some (.int .i64 a5) ∧ w'.cell? ⟨ga, jm * 11 + 6, none⟩ = some (.int .i64 a6) ∧ w'.cell? ⟨ga, jm * 11 + 7, none⟩ = some (.int .i64 a7) ∧ w'.cell? ⟨ga, jm * 11 + 8, none⟩ = some (.string a8) ∧ w'.cell? ⟨ga, jm * 11 + 9, none⟩ = some (.int .i64 a9) ∧ w'.cell? ⟨ga, jm * 11 + 10, none⟩ = some (.slice dA a10.length dc) ∧ w'.cell? ⟨gt, k * 11, none⟩ = some (.string a0) ∧ w'.cell? ⟨gt, k * 11 + 1, none⟩ = some (.int .i64 a1) ∧ w'.cell? ⟨gt, k * 11 + 2, none⟩ = some (.int .i64 a2) ∧ w'.cell? ⟨gt, k * 11 + 3, none⟩ = some (.int .i64 a3) ∧ w'.cell? ⟨gt, k * 11 + 4, none⟩ = some (.int .i64 a4) ∧ w'.cell? ⟨gt, k * 11 + 5, none⟩ = some (.int .i64 a5) ∧ w'.cell? ⟨gt, k * 11 + 6, none⟩ = some (.int .i64 a6) ∧ w'.cell? ⟨gt, k * 11 + 7, none⟩ = some (.int .i64 a7) ∧ w'.cell? ⟨gt, k * 11 + 8, none⟩ = some (.string a8) ∧ w'.cell? ⟨gt, k * 11 + 9, none⟩ = some (.int .i64 a9) ∧ w'.cell? ⟨gt, k * 11 + 10, none⟩ = some (.slice aA a10.length ac)) (ds := []) #[false, false, false, false, false, false, false, false, false, false, false, false, false, false] (by kernel_rfl) rfl rfl ⟨dx0, dx1, dx2, dx3, dx4, dx5, dx6, dx7, dx8, dx9, dx10, ax0, ax1, ax2, ax3, ax4, ax5, ax6, ax7, ax8, ax9, ax10⟩ (fun hHeld => ?_)
              generalize wr.drew = wd at HBJ HPJ HaC HdC ax0 ax1 ax2 ax3 ax4 ax5 ax6 ax7 ax8 ax9 ax10 dx0 dx1 dx2 dx3 dx4 dx5 dx6 dx7 dx8 dx9 dx10 hHeld ⊢; have HX3 := Lib.hid (Below.refl wd.heap.size wd)
              refine pA 0 (some 116) rfl rfl (by intro w'; go_simp; with_reducible rfl) (by simp only [Act.put, nS]; rfl) ?_
              refine pA 1 (some 117) rfl rfl (by intro w'; go_simp; with_reducible rfl) (by simp only [Act.put, nS]; rfl) ?_
              refine pA 2 (some 118) rfl rfl (by intro w'; go_simp; with_reducible rfl) (by simp only [Act.put, nS]; rfl) ?_
              refine pA 3 (some 119) rfl rfl (by intro w'; go_simp; with_reducible rfl) (by simp only [Act.put, nS]; rfl) ?_
              refine pA 4 (some 120) rfl rfl (by intro w'; go_simp; with_reducible rfl) (by simp only [Act.put, nS]; rfl) ?_
              refine pA 5 (some 121) rfl rfl (by intro w'; go_simp; with_reducible rfl) (by simp only [Act.put, nS]; rfl) ?_
              refine pA 7 (some 123) rfl rfl (by intro w'; go_simp; with_reducible rfl) (by simp only [Act.put, nS]; rfl) ?_
              refine pA 8 (some 124) rfl rfl (by intro w'; go_simp; with_reducible rfl) (by simp only [Act.put, nS]; rfl) ?_
              refine pA 9 (some 125) rfl rfl (by intro w'; go_simp; with_reducible rfl) (by simp only [Act.put, nS]; rfl) ?_
              refine tA 6 (some 122) rfl rfl (by rintro w' ⟨s0, s1, s2, s3, s4, s5, s6, s7, s8, s9, s10, s11, s12, s13, s14, s15, s16, s17, s18, s19, s20, s21⟩; go_simp; with_reducible rfl) hHeld (by simp only [Act.put, nS]; rfl) ?_
              refine tA 10 (some 126) rfl rfl (by rintro w' ⟨s0, s1, s2, s3, s4, s5, s6, s7, s8, s9, s10, s11, s12, s13, s14, s15, s16, s17, s18, s19, s20, s21⟩; go_simp; with_reducible rfl) hHeld (by simp only [Act.put, nS]; rfl) ?_
              refine oA 11 (some 127) rfl rfl (fun K hK => ?_)
              refine goes_ Try.func39 (by kernel_rfl) rfl #[.agg #[.string a0, .int .i64 a1, .int .i64 a2, .int .i64 a3, .int .i64 a4, .int .i64 a5, .int .i64 a6, .int .i64 a7, .string a8, .int .i64 a9, .slice dA a10.length dc], .agg #[.string a0, .int .i64 a1, .int .i64 a2, .int .i64 a3, .int .i64 a4, .int .i64 a5, .int .i64 a6, .int .i64 a7, .string a8, .int .i64 a9, .slice aA a10.length ac]] (by rfl) rfl rfl (by simp only [List.map_toArray, List.map_cons, List.map_nil]; rfl) ?_
              with_reducible refine (eqP_self_x a0 a1 a2 a3 a4 a5 a6 a7 a8 a9 a10 dA dc aA ac _ HdC.out HdL.out HaC.out HaL.out HF6.out).mono ?_
              rintro e wx ⟨rfl, hb⟩
              refine ⟨_, rfl, ?_⟩
              have n_ := Lib.hid (HX3.out.trans (hb.mono HX3.out.size)); clear HX3; have HX3 := n_; clear n_ hb
              refine hK.out _ _ ⟨(HX3.out.cell (World.block_lt_of_cell? _ _ dx0)).trans dx0, (HX3.out.cell (World.block_lt_of_cell? _ _ dx1)).trans dx1, (HX3.out.cell (World.block_lt_of_cell? _ _ dx2)).trans dx2, (HX3.out.cell (World.block_lt_of_cell? _ _ dx3)).trans dx3, (HX3.out.cell (World.block_lt_of_cell? _ _ dx4)).trans dx4, (HX3.out.cell (World.block_lt_of_cell? _ _ dx5)).trans dx5, (HX3.out.cell (World.block_lt_of_cell? _ _ dx6)).trans dx6, (HX3.out.cell (World.block_lt_of_cell? _ _ dx7)).trans dx7, (HX3.out.cell (World.block_lt_of_cell? _ _ dx8)).trans dx8, (HX3.out.cell (World.block_lt_of_cell? _ _ dx9)).trans dx9, (HX3.out.cell (World.block_lt_of_cell? _ _ dx10)).trans dx10, (HX3.out.cell (World.block_lt_of_cell? _ _ ax0)).trans ax0, (HX3.out.cell (World.block_lt_of_cell? _ _ ax1)).trans ax1, (HX3.out.cell (World.block_lt_of_cell? _ _ ax2)).trans ax2, (HX3.out.cell (World.block_lt_of_cell? _ _ ax3)).trans ax3, (HX3.out.cell (World.block_lt_of_cell? _ _ ax4)).trans ax4, (HX3.out.cell (World.block_lt_of_cell? _ _ ax5)).trans ax5, (HX3.out.cell (World.block_lt_of_cell? _ _ ax6)).trans ax6, (HX3.out.cell (World.block_lt_of_cell? _ _ ax7)).trans ax7, (HX3.out.cell (World.block_lt_of_cell? _ _ ax8)).trans ax8, (HX3.out.cell (World.block_lt_of_cell? _ _ ax9)).trans ax9, (HX3.out.cell (World.block_lt_of_cell? _ _ ax10)).trans ax10⟩ (fun hHeld => norm_ (by show Act.put _ (some 127) _ = _; simp only [Act.put, nS]; rfl) ?_)
              clear hK K
              refine pA 12 (some 128) rfl rfl (by intro w'; go_simp; with_reducible rfl) (by simp only [Act.put, nS]; rfl) ?_
              refine pA 13 (some 129) rfl rfl (by intro w'; go_simp; with_reducible rfl) (by simp only [Act.put, nS]; rfl) ?_
              refine done_ (by kernel_rfl) ?_
              go_wp2
              go_roundg kB
              case measure => omega
              case rel => exact ⟨k + 1, by first | rw [HF3.out] | rfl, by rw [HS2.out], rfl, by have := HK.out; omega, by have := HKL.out; omega, HBJ.out.trans (HX3.out.mono HBJ.out.size)⟩
        · have d2 : decide ((k : Int) < (nT : Int)) = false := decide_eq_false (by omega)
          have hkn : k = nT := by omega
          subst hkn
          have hth1 : thB fb p0 T k = true := by
           rcases HFIT.out with ⟨h1, _⟩ | ⟨h1, _, h2⟩
           · unfold thB; rw [h1]; rfl
           · unfold thB
             rw [HNT.out, List.take_length]
             have h3 : p0 ∈ T := HPM.out.mem_iff.2 (by rw [HP0.out]; exact h2)
             have h4 : (T.any fun t => eqP t p0) = true := List.any_eq_true.2 ⟨p0, h3, eqP_self p0⟩
             rw [h4]
             simp
          have hsm1 : sumP (T.take k) = sumP T := by rw [HNT.out, List.take_length]
          rw [hth1, hsm1]
          obtain ⟨sT, hsT⟩ : ∃ x, x = sumP T := ⟨_, rfl⟩
          have d6 : decide (most < sT) = false := decide_eq_false (by rw [hsT]; have := HSUM.out; omega)
          have d7 : ((k : Int) != (k : Int)) = false := bne_eq_false_iff_eq.2 rfl
          have HSK := Lib.hid (HS7.out.below HBK.out)
          have HPK2 := Lib.hid (HP7.out.below HBK.out)
          have hnl : k = L.length := by rw [HNT.out, HPM.out.length_eq]
          have HNL := Lib.hid hnl
          have HBK2 := Lib.hid (HB7.out.trans (HBK.out.mono HB7.out.size))
          rw [← hsT]
          clear hk hkl hbk c1 hth1 hsm1 hsT hnl
          go_wp2_with (go_at_call 35; refine (many_n k HSK.out HNL.out).mono ?_; rintro e W10 ⟨rfl, hb⟩; have HS10 := Lib.hid (HSK.out.below hb); have HP10 := Lib.hid (HPK2.out.below hb); have HB10 := Lib.hid (HBK2.out.trans (hb.mono HBK2.out.size)); clear hb)
          go_roundg kA
          case measure => omega
          case rel => exact ⟨i + 1, by first | rw [HE1.out] | rfl, by have := HJ.out; omega, by have := HJL.out; omega, HP10.out, HB10.out, by rw [← HLE.out]; exact HS10.out⟩
  · have hie : i = P.length := by omega
    subst hie
    clear hp hb hs hi hil c0
    go_wp2
    go_ret
    exact ⟨rfl, HBR.out⟩
end Go.Proofs.Ythokkeljfdfppaa.Rl
