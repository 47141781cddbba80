/- The reference's relay: Take. -/
import Derived.Test.YthokkeljfdfppaaRpC
set_option linter.unusedVariables false
set_option linter.unusedSimpArgs false
namespace Go.Proofs.Ythokkeljfdfppaa.Rl
open Go.RowKit Go.Proofs.YthokkeljfdfppaaW.PrintWords Go.Proofs.YthokkeljfdfppaaW.PrintLast Go.Proofs.YthokkeljfdfppaaW.PrintMore Go.Proofs.Ythokkeljfdfppaa.Pb Go.Proofs.Ythokkeljfdfppaa.Gw Go.Proofs.Ythokkeljfdfppaa.Pure
theorem zbc4 {p : Prop} (h : p := by first | rw [HE1.out] | rfl) : p := h
theorem zbc3 {p : Prop} (h : p := by have := HN.out; omega) : p := h
theorem zbc2 {p : Prop} (h : p := by rintro w' ⟨s0, s1, s2, s3, s4, s5, s6⟩; go_simp; with_reducible rfl) : p := h
theorem zbc1 {p : Prop} (h : p := by intro w'; go_simp; with_reducible rfl) : p := h
theorem zbc0 {p : Prop} (h : p := by simp only [Act.put, nS]; rfl) : p := h
theorem keepP_len (bytes : Int) (L : List S55) (p : S55) : (keepP bytes L p).2.length ≤ L.length + 1 := by
 unfold keepP
 split
 · exact Nat.le_succ _
 · have h1 := (fitP_sub (othersP (nmOf p) L) (bytes - szP p)).length_le
   have h2 : (othersP (nmOf p) L).length ≤ L.length := List.length_filter_le _ _
   simp only [List.length_append, List.length_singleton]
   omega
theorem keepAll_len (bytes : Int) : ∀ (l L : List S55), (keepAll bytes L l).length ≤ L.length + l.length
 | [], L => Nat.le_refl _
 | p :: l, L => by
   have h1 := keepAll_len bytes l (keepP bytes L p).2
   have h2 := keepP_len bytes L p
   simp only [keepAll, List.foldl_cons, List.length_cons] at h1 ⊢
   omega
theorem eqK_comm (a b : S52) : eqK a b = eqK b a := by
 have h : eqK a b = true ↔ eqK b a = true := by rw [eqK_iff, eqK_iff]; exact eq_comm
 cases h1 : eqK a b <;> cases h2 : eqK b a <;> simp_all
def anyK (keys : List S52) (x : S52) : Bool := keys.any (fun q => eqK q x)
theorem anyK_has (keys : List S52) (x : S52) : anyK keys x = hasK keys x := by
 unfold anyK hasK
 congr 1
 funext q
 exact eqK_comm q x
theorem anyK_snoc (keys : List S52) (x : S52) (k : Nat) (q : S52) (h : keys[k]? = some q) : anyK (keys.take (k + 1)) x = (anyK (keys.take k) x || eqK q x) := by
 unfold anyK
 rw [List.take_add_one, h]
 simp
theorem refTold_n (k : Nat) (A : Option Addr) (c : Nat) (X : List Kp) (r : ByteArray) (w : World) (hr : Kd.C k55 w A (X.map Kp.p).length (X.map Kp.p)) (hc : X.length ≤ c) (h : abugidaref35_Told.f k (X.map Kp.p) = some r) :
 Calls Try.prog 23 #[.slice A X.length c] w fun e w' => e = .returned (.string r) ∧ Below w.heap.size w w' := by
 have hc' : (X.map Kp.p).length ≤ c := by rw [List.length_map]; exact hc
 rw [← List.length_map (f := Kp.p)]
 exact abugidaref35_Told.calls k A c _ r w hr hc' h
set_option maxHeartbeats 4000000 in
set_option maxRecDepth 100000 in
theorem refTake_other {w : World} {g : Nat} {no bytes : Int} {Q : Nat → Prop} {X : List Kp} (h : RefX w g no bytes Q X) (h0 : 0 < bytes) (fr tw : Int) (hne : tw ≠ no) (s : ByteArray) :
 Calls Try.prog 34 #[.pointer (some ⟨g, 0, none⟩), .agg #[.int .i64 fr, .int .i64 tw, .string s]] w fun e w' => e = .returned (.slice none 0 0) ∧ Below w.heap.size w w' := by
 have HB := Lib.hid (below_alloc (Below.refl w.heap.size w) (.cells #[.int .i64 fr, .int .i64 tw, .string s] 68 (0, 0)))
 obtain ⟨Ax, cx, hcell, _, _, _⟩ := (h.below HB.out).cell
 have q1 := ck hcell 1 _ rfl
 have q0 := ck hcell 0 _ rfl
 have HBX := Lib.hid (blk_new w (.cells #[.int .i64 fr, .int .i64 tw, .string s] 68 (0, 0)))
 obtain ⟨b0, b1, b2⟩ := box68 HBX.out
 have e1 : (bytes == 0) = false := beq_eq_false_iff_ne.mpr (by omega)
 have e2 : (tw != no) = true := bne_iff_ne.mpr hne
 have e3 : (tw == no) = false := beq_eq_false_iff_ne.mpr hne
 clear h hcell h0 hne
 go_enter Try.func34, Try.ntmps34
 go_wp2
 generalize w.alloc (.cells #[.int .i64 fr, .int .i64 tw, .string s] 68 (0, 0)) = w1 at HB HBX q1 q0 b0 b1 b2 ⊢
 go_quiet (fail)
 go_wp2
 go_ret
 exact ⟨rfl, pw_below_drewN HB.out _⟩
set_option maxHeartbeats 8000000 in
set_option maxRecDepth 100000 in
theorem refTake_told {w : World} {g : Nat} {no bytes : Int} {Q : Nat → Prop} {X : List Kp} (h : RefX w g no bytes Q X) (h0 : 0 < bytes) (hbig : bytes ≤ 1099511627776) (hX : X.length ≤ 900) (hQ : ∀ k, w.heap.size ≤ k → Q k) (hg : ∀ k, Q k → k ≠ g) (s : ByteArray) (l : List S55) (hT : Ev (fun k => abugidaref35_Tell.f k s) (l, true)) (r : AskR) (hA : Ev (fun k => abugidaref35_Asked.f k s) r) (hl : l.length ≤ 90) (hp : ∀ p ∈ l, PK p) (fr tw : Int) (he : tw = no) :
 Calls Try.prog 34 #[.pointer (some ⟨g, 0, none⟩), .agg #[.int .i64 fr, .int .i64 tw, .string s]] w fun e w' => ∃ X', e = .returned (.slice none 0 0) ∧ X'.map Kp.p = keepAll bytes (X.map Kp.p) l ∧ RefX w' g no bytes Q X' ∧ Only g g w w' := by
 have HB := Lib.hid (below_alloc (Below.refl w.heap.size w) (.cells #[.int .i64 fr, .int .i64 tw, .string s] 68 (0, 0)))
 obtain ⟨Ax, cx, hcell, _, _, _⟩ := (h.below HB.out).cell
 have q1 := ck hcell 1 _ rfl
 have q0 := ck hcell 0 _ rfl
 have HBX := Lib.hid (blk_new w (.cells #[.int .i64 fr, .int .i64 tw, .string s] 68 (0, 0)))
 obtain ⟨b0, b1, b2⟩ := box68 HBX.out
 have e1 : (bytes == 0) = false := beq_eq_false_iff_ne.mpr (by omega)
 have e2 : (tw != no) = false := bne_eq_false_iff_eq.mpr he
 have e3 : (tw == no) = true := beq_iff_eq.mpr he
 obtain ⟨kT, hkT⟩ := hT.rounds
 obtain ⟨font, v, keys, ok⟩ := r
 obtain ⟨kA, hkA⟩ := hA.rounds
 have HT := Lib.hid hkT
 have HA := Lib.hid hkA
 have HN := Lib.hid (show 0 < bytes ∧ bytes ≤ 1099511627776 ∧ X.length ≤ 900 ∧ l.length ≤ 90 from ⟨h0, hbig, hX, hl⟩)
 have HP := Lib.hid hp
 have HQ := Lib.hid hQ
 have HG := Lib.hid hg
 have HGL := Lib.hid (show g < w.heap.size from by obtain ⟨_, _, hc_, _⟩ := h.cell; exact blk_lt hc_)
 have HRS := Lib.hid (h.below HB.out)
 clear h hcell h0 hbig hX hQ hg hT hA hl hp he hkT hkA
 go_enter Try.func34, Try.ntmps34
 go_wp2
 generalize w.alloc (.cells #[.int .i64 fr, .int .i64 tw, .string s] 68 (0, 0)) = w1 at HB HRS HBX q1 q0 b0 b1 b2 ⊢
 go_quiet (fail)
 clear q1 q0 b0 b1 b2 e1 e2 e3
 have HB2 := Lib.hid (pw_below_drewN HB.out nq)
 have HRS2 := Lib.hid (HRS.out.below (pw_below_drewN (Below.refl w1.heap.size w1) nq))
 have HBX2 := Lib.hid (show (w1.drewN nq).heap[w.heap.size]? = _ from HBX.out)
 generalize w1.drewN nq = w2 at HB2 HRS2 HBX2 ⊢
 clear HB HRS HBX
 obtain ⟨b0, b1, b2⟩ := box68 HBX2.out
 go_upto_region 4 with (go_at_call 26; refine (abugidaref35_Tell.calls kT s l true _ HT.out).mono ?_; rintro e w3 ⟨v3, rfl, hr, hb⟩; have HR := Lib.hid (Kd.R_mono (ok' := fun k => k ≠ g) (Kd.R_lower (Kd.R_bound (Kd.S_R hr)) HB2.out.size) (fun k hk e => by have h1 := hk.2.1; have h2 := HB2.out.size; have h3 := HGL.out; omega)); have HB3 := Lib.hid (HB2.out.trans (hb.mono HB2.out.size)); have HRS3 := Lib.hid (HRS2.out.below hb); have HBX3 := Lib.hid (blk_below HBX2.out hb); obtain ⟨A1, c1, rfl⟩ := Kd.R_slice HR.out; clear hr hb)
 clear b0 b1 b2 HRS2 HBX2
 go_wp2
 go_loopg [7] (l.length + 1) (fun kq v7 w' => ∃ (j : Nat) (X' : List Kp), v7 = .int .i64 (j : Int) ∧ j + kq = l.length + 1 ∧ j ≤ l.length ∧ Only g g w w' ∧ RefX w' g no bytes Q X' ∧ X'.map Kp.p = keepAll bytes (X.map Kp.p) (l.take j) ∧ Kd.R k55 55 w' w.heap.size (fun k => k ≠ g) (.slice A1 l.length c1) l ∧ w'.heap[w.heap.size]? = some (.cells #[.int .i64 fr, .int .i64 tw, .string s] 68 (0, 0)))
 case atStart => exact ⟨0, X, rfl, by omega, by omega, Only.of_below HB3.out, HRS3.out, rfl, HR.out, HBX3.out⟩
 case round =>
  clear HR HB3 HRS3 HBX3
  obtain ⟨j, X', rfl, hj, hjl, ho, hrx, hm, hr, hbx⟩ := hrel
  have HJ := Lib.hid (show j + gk = l.length + 1 ∧ j ≤ l.length from ⟨hj, hjl⟩)
  have HO := Lib.hid ho
  have HRX := Lib.hid hrx
  have HM := Lib.hid hm
  have HRR := Lib.hid hr
  have HBB := Lib.hid hbx
  have HLEN := Lib.hid (show X'.length ≤ 1000 from by
   have h1 := congrArg List.length hm
   rw [List.length_map] at h1
   have h2 := keepAll_len bytes (l.take j) (X.map Kp.p)
   rw [List.length_map, List.length_take] at h2
   have := HN.out
   omega)
  by_cases c : j < l.length
  · have d1 : decide ((j : Int) < (l.length : Int)) = true := decide_eq_true (by omega)
    obtain ⟨ga, hga⟩ := R_some hr (by omega)
    subst hga
    obtain ⟨x, hx⟩ : ∃ x, l[j]? = some x := ⟨l[j], List.getElem?_eq_getElem c⟩
    have hpx := HP.out x (List.mem_of_getElem? hx)
    obtain ⟨A, c, hrg, hcap, hC⟩ := elem55 hr hx
    have hsn := keepAll_snoc bytes (X.map Kp.p) l j x hx
    obtain ⟨f0, f1, ⟨k1, k2, k3⟩, ⟨b1, b2, b3⟩, f4, f5, f6⟩ := x
    simp only at hrg hcap hC
    have HSN := Lib.hid hsn
    have HPX := Lib.hid hpx
    have HRG := Lib.hid hrg
    have HCAP := Lib.hid hcap
    have HCC := Lib.hid hC
    have i1 : ((0 : Int) ≤ (j : Int)) = True := eq_true (by omega)
    have i2 : ((j : Int) < (l.length : Int)) = True := eq_true (by omega)
    have HE1 := Lib.hid (show wrap64 ((j : Int) + 1) = ((j + 1 : Nat) : Int) from by rw [rl64 zbc3 zbc3]; omega)
    have HQ2 := Lib.hid (show ∀ k, wr.heap.size ≤ k → Q k from fun k hk => HQ.out k (Nat.le_trans ho.size hk))
    clear hx hpx hrg hcap hC ho hrx hm hr hbx hj hjl hsn
    go_wp2_with (first
     | (refine wpList_load_mid rfl 55 (.tmp 49) rfl ga (j * 11) rfl (#[.string f0, .int .i64 f1, .int .i64 k1, .int .i64 k2, .int .i64 k3, .int .i64 b1, .int .i64 b2, .int .i64 b3, .string f4, .int .i64 f5, .slice A f6.length c] : Array Value).toList _ HRG.out Try.underlying55 rfl (inf11 rfl) ?_)
     | (go_at_call 32; refine (refKeep_x HRX.out HN.out.1 HN.out.2.1 HLEN.out HQ2.out HG.out f0 f1 k1 k2 k3 b1 b2 b3 f4 f5 f6 HPX.out A c HCC.out HCAP.out).mono ?_; rintro e w4 ⟨X2, rfl, hm2, hr2, ho2⟩; have HM2 := Lib.hid hm2; have HR2 := Lib.hid hr2; have HO2 := Lib.hid ho2; clear hm2 hr2 ho2))
    cases gk with
    | zero => exact absurd HJ.out (by omega)
    | succ kk =>
      go_roundg kk
      case measure => omega
      case rel =>
       exact ⟨j + 1, X2, zbc4, by have := HJ.out; omega, by omega, HO.out.trans HO2.out, HR2.out, by rw [HSN.out, HM2.out, HM.out], Kd.R_step HRR.out (fun k hk hlt => HO2.out.block k hlt hk hk), (HO2.out.block _ (blk_lt HBB.out) (by have := HGL.out; omega) (by have := HGL.out; omega)).trans HBB.out⟩
  · have d1 : decide ((j : Int) < (l.length : Int)) = false := decide_eq_false (by omega)
    have hje : j = l.length := by omega
    subst hje
    rw [List.take_length] at hm
    have HM3 := Lib.hid hm
    obtain ⟨b0, b1, b2⟩ := box68 hbx
    clear ho hrx hm hr hbx hj hjl c HM
    go_wp2_with (go_at_call 25; refine (abugidaref35_Asked.calls kA s font v keys ok _ HA.out).mono ?_; rintro e w5 ⟨v5, rfl, hr, hb⟩; have HB5 := Lib.hid hb; clear hr hb)
    go_ret
    exact ⟨X', rfl, HM3.out, HRX.out.below HB5.out, HO.out.trans (Only.of_below HB5.out)⟩
set_option maxHeartbeats 16000000 in
set_option maxRecDepth 100000 in
theorem refTake_asked {w : World} {g : Nat} {no bytes : Int} {Q : Nat → Prop} {X : List Kp} (h : RefX w g no bytes Q X) (h0 : 0 < bytes) (hX : X.length ≤ 1000) (s font : ByteArray) (v : Int) (keys : List S52) (hA : Ev (fun k => abugidaref35_Asked.f k s) (font, v, keys, true)) (hkl : keys.length ≤ 1000) (hT : Ev (fun k => abugidaref35_Tell.f k s) noTell) (fr tw : Int) (he : tw = no) :
 Calls Try.prog 34 #[.pointer (some ⟨g, 0, none⟩), .agg #[.int .i64 fr, .int .i64 tw, .string s]] w fun e w' => ∃ gm, e = .returned (.slice (some ⟨gm, 0, none⟩) 1 1) ∧ w.heap.size ≤ gm ∧ w'.heap[gm]? = some (.cells #[.int .i64 no, .int .i64 fr, .string (ToldB (askL font v keys (X.map Kp.p)))] 68 (0, 0)) ∧ Below w.heap.size w w' := by
 have HB := Lib.hid (below_alloc (Below.refl w.heap.size w) (.cells #[.int .i64 fr, .int .i64 tw, .string s] 68 (0, 0)))
 obtain ⟨Ax, cx, hcell, _, _, _⟩ := (h.below HB.out).cell
 have q1 := ck hcell 1 _ rfl
 have q0 := ck hcell 0 _ rfl
 have HBX := Lib.hid (blk_new w (.cells #[.int .i64 fr, .int .i64 tw, .string s] 68 (0, 0)))
 obtain ⟨b0, b1, b2⟩ := box68 HBX.out
 have e1 : (bytes == 0) = false := beq_eq_false_iff_ne.mpr (by omega)
 have e2 : (tw != no) = false := bne_eq_false_iff_eq.mpr he
 have e3 : (tw == no) = true := beq_iff_eq.mpr he
 obtain ⟨kT, hkT⟩ := hT.rounds
 obtain ⟨kA, hkA⟩ := hA.rounds
 have HT := Lib.hid (show abugidaref35_Tell.f kT s = some (([] : List S55), false) from hkT)
 have HA := Lib.hid hkA
 have HN := Lib.hid (show X.length ≤ 1000 ∧ keys.length ≤ 1000 from ⟨hX, hkl⟩)
 have HRS := Lib.hid (h.below HB.out)
 clear h hcell h0 hX hT hA hkl he hkT hkA
 go_enter Try.func34, Try.ntmps34
 go_wp2
 generalize w.alloc (.cells #[.int .i64 fr, .int .i64 tw, .string s] 68 (0, 0)) = w1 at HB HRS HBX q1 q0 b0 b1 b2 ⊢
 go_quiet (fail)
 clear q1 q0 b0 b1 b2 e1 e2 e3
 have HB2 := Lib.hid (pw_below_drewN HB.out nq)
 have HRS2 := Lib.hid (HRS.out.below (pw_below_drewN (Below.refl w1.heap.size w1) nq))
 have HBX2 := Lib.hid (show (w1.drewN nq).heap[w.heap.size]? = _ from HBX.out)
 generalize w1.drewN nq = w2 at HB2 HRS2 HBX2 ⊢
 clear HB HRS HBX
 obtain ⟨b0, b1, b2⟩ := box68 HBX2.out
 go_upto_region 4 with (go_at_call 26; refine (abugidaref35_Tell.calls kT s [] false _ HT.out).mono ?_; rintro e w3 ⟨v3, rfl, hr, hb⟩; have HB3 := Lib.hid (HB2.out.trans (hb.mono HB2.out.size)); have HRS3 := Lib.hid (HRS2.out.below hb); have HBX3 := Lib.hid (blk_below HBX2.out hb); obtain ⟨A1, c1, rfl⟩ := Kd.R_slice (Kd.S_R hr); clear hr hb)
 clear b0 b1 b2 HRS2 HBX2 HB2
 go_wp2
 go_loopg [7] 1 (fun kq v7 w' => v7 = .int .i64 0 ∧ w' = w3)
 case atStart => exact ⟨rfl, rfl⟩
 case round =>
  obtain ⟨rfl, rfl⟩ := hrel
  obtain ⟨b0, b1, b2⟩ := box68 HBX3.out
  go_upto_region 11 with (go_at_call 25; refine (abugidaref35_Asked.calls kA s font v keys true _ HA.out).mono ?_; rintro e w5 ⟨v5, rfl, hr, hb⟩; obtain ⟨Ak, ck5, rfl⟩ := Kd.R_slice (hr); have HKP := Lib.hid (show 0 < keys.length → ∃ gk, Ak = some ⟨gk, 0, none⟩ from fun hn => R_some (hr) hn); have HKC := Lib.hid (Kd.R_reads' (hr)).2.2; have HB5 := Lib.hid (HB3.out.trans (hb.mono HB3.out.size)); have HRS5 := Lib.hid (HRS3.out.below hb); have HBX5 := Lib.hid (blk_below HBX3.out hb); clear hr hb)
  clear b0 b1 b2 HRS3 HBX3 HB3
  obtain ⟨Ax, cx, hcell, hcx, hpx, hFx⟩ := HRS5.out.cell
  have HCELL := Lib.hid hcell
  have HPX := Lib.hid hpx
  have HFX := Lib.hid hFx
  clear hcell hcx hpx hFx
  go_wp2
  go_loopg [12, 13] (X.length + 1) (fun kq v12 v13 w' => ∃ (j : Nat) (Y : List Kp), v13 = .int .i64 (j : Int) ∧ j + kq = X.length + 1 ∧ j ≤ X.length ∧ Below w5.heap.size w5 w' ∧ Kd.R kPp 55 w' w5.heap.size (fun _ => True) v12 Y ∧ Y = (X.take j).filter (fun x => wants font v keys x.p))
  case atStart => exact ⟨0, [], rfl, by omega, by omega, Below.refl _ _, Kd.R_nil _ _ _ _ _, rfl⟩
  case round =>
   obtain ⟨j, Y, rfl, hj, hjl, hb, hr, hY⟩ := hrel
   have HBr := Lib.hid hb
   have HRr := Lib.hid hr
   have HYE := Lib.hid hY
   have HJ := Lib.hid (show j + gk = X.length + 1 ∧ j ≤ X.length from ⟨hj, hjl⟩)
   have y2 := ck (blk_below HCELL.out hb) 2 _ rfl
   by_cases c0 : j < X.length
   · have d2 : decide ((j : Int) < (X.length : Int)) = true := decide_eq_true (by omega)
     obtain ⟨ga, rfl⟩ := HPX.out (by omega)
     obtain ⟨x, hx⟩ : ∃ x, X[j]? = some x := ⟨X[j], List.getElem?_eq_getElem c0⟩
     have hrg := elemP (Kd.F_now (Kd.F_below HFX.out HBr.out)) hx
     have hsn := filter_snoc (fun x : Kp => wants font v keys x.p) X j x hx
     obtain ⟨⟨a0, a1, ⟨a2, a3, a4⟩, ⟨a5, a6, a7⟩, a8, a9, a10⟩, aA, ac, asz, atm⟩ := x
     simp only [pcells] at hrg
     have HRG := Lib.hid hrg
     have HJL := Lib.hid c0
     have HSN := Lib.hid hsn
     have i1 : ((0 : Int) ≤ (j : Int)) = True := eq_true (by omega)
     have i2 : ((j : Int) < (X.length : Int)) = True := eq_true (by omega)
     have HE1 := Lib.hid (show wrap64 ((j : Int) + 1) = ((j + 1 : Nat) : Int) from by rw [rl64 zbc3 zbc3]; omega)
     obtain ⟨wj, hwj⟩ : ∃ W, W = wr := ⟨_, rfl⟩
     subst hwj
     have HCELj := Lib.hid (blk_below HCELL.out HBr.out)
     have HKCj := Lib.hid (Kd.C_below HKC.out HBr.out)
     cases gk with
     | zero => exact absurd HJ.out (by omega)
     | succ kA1 =>
       clear hx hrg hsn hb hr hj hjl hY c0
       go_upto_block 4 with fail
       go_wp2
       go_loopg [14, 15] (keys.length + 1) (fun kq v14 v15 w' => ∃ k : Nat, v15 = .int .i64 (k : Int) ∧ v14 = .bool (anyK (keys.take k) ⟨a2, a3, a4⟩) ∧ k + kq = keys.length + 1 ∧ k ≤ keys.length ∧ Below wj.heap.size wj w')
       case atStart => exact ⟨0, rfl, rfl, by omega, by omega, Below.refl _ _⟩
       case round =>
        obtain ⟨k, rfl, rfl, hk, hkl, hbk⟩ := hrel
        have HK := Lib.hid (show k + gk = keys.length + 1 ∧ k ≤ keys.length from ⟨hk, hkl⟩)
        have HBK := Lib.hid hbk
        by_cases c1 : k < keys.length
        · have d3 : decide ((k : Int) < (keys.length : Int)) = true := decide_eq_true (by omega)
          obtain ⟨y, hy⟩ : ∃ y, keys[k]? = some y := ⟨keys[k], List.getElem?_eq_getElem c1⟩
          obtain ⟨gq, rfl⟩ := HKP.out (by omega)
          have hany := anyK_snoc keys ⟨a2, a3, a4⟩ k y hy
          obtain ⟨n0, hn0⟩ : ∃ b, b = anyK (keys.take k) ⟨a2, a3, a4⟩ := ⟨_, rfl⟩
          rw [← hn0] at hany
          have HBd := Lib.hid hbk.drew
          obtain ⟨p0, p1, p2⟩ := elem52 (Kd.C_below HKCj.out HBd.out) hy
          obtain ⟨r0, r1, r2⟩ := y
          simp only at p0 p1 p2
          have hrgd := rangeAt_below HRG.out HBd.out
          have z2 := hrgd 2 _ rfl
          have z3 := hrgd 3 _ rfl
          have z4 := hrgd 4 _ rfl
          have x2 := ck (blk_below HCELj.out HBd.out) 2 _ rfl
          have j1 : ((0 : Int) ≤ (k : Int)) = True := eq_true (by omega)
          have j2 : ((k : Int) < (keys.length : Int)) = True := eq_true (by omega)
          have HE2 := Lib.hid (show wrap64 ((k : Int) + 1) = ((k + 1 : Nat) : Int) from by rw [rl64 zbc3 zbc3]; omega)
          have HAN := Lib.hid hany
          rw [← hn0]
          have HN0 := Lib.hid hn0
          clear hy hany hn0 hbk hk hkl hrgd y2
          cases gk with
          | zero => exact absurd HK.out (by omega)
          | succ kB =>
            go_upto_region 19 with fail
            cases n0 with
            | true =>
              refine start_ (n := 17) (S := fun w' => w'.cell? ⟨gq, k * 3, none⟩ = some (.int .i64 r0) ∧ w'.cell? ⟨gq, k * 3 + 1, none⟩ = some (.int .i64 r1) ∧ w'.cell? ⟨gq, k * 3 + 2, none⟩ = some (.int .i64 r2) ∧ w'.cell? ⟨ga, j * 11 + 2, none⟩ = some (.int .i64 a2) ∧ w'.cell? ⟨ga, j * 11 + 3, none⟩ = some (.int .i64 a3) ∧ w'.cell? ⟨ga, j * 11 + 4, none⟩ = some (.int .i64 a4) ∧ w'.cell? ⟨g, 2, none⟩ = some (.slice (some ⟨ga, 0, none⟩) X.length cx)) (ds := []) #[false, false, false, false, false, false, false, false, false, false, false, false, false, false, false, false, false] (by kernel_rfl) rfl rfl ⟨p0, p1, p2, z2, z3, z4, x2⟩ (fun hHeld => ?_)
              generalize wr.drew = wd at HBd p0 p1 p2 z2 z3 z4 x2 hHeld ⊢
              refine pA 0 (some 80) rfl rfl zbc1 zbc0 ?_
              refine pA 1 (some 81) rfl rfl zbc1 zbc0 ?_
              refine pU 2 (some 82) rfl rfl zbc0 ?_
              refine pU 3 (some 83) rfl rfl zbc0 ?_
              refine pU 4 (some 84) rfl rfl zbc0 ?_
              refine pU 5 (some 85) rfl rfl zbc0 ?_
              refine pU 6 (some 86) rfl rfl zbc0 ?_
              refine pU 7 (some 87) rfl rfl zbc0 ?_
              refine pU 8 (some 88) rfl rfl zbc0 ?_
              refine pU 9 (some 89) rfl rfl zbc0 ?_
              refine pU 10 (some 90) rfl rfl zbc0 ?_
              refine pU 11 (some 91) rfl rfl zbc0 ?_
              refine pU 12 (some 92) rfl rfl zbc0 ?_
              refine pU 13 (some 93) rfl rfl zbc0 ?_
              refine pU 14 (some 94) rfl rfl zbc0 ?_
              refine pA 15 (some 95) rfl rfl zbc1 zbc0 ?_
              refine pA 16 (some 14) rfl rfl zbc1 zbc0 ?_
              refine done_ (by kernel_rfl) ?_
              go_wp2
              go_roundg kB
              case measure => omega
              case rel => exact ⟨k + 1, by first | rw [HE2.out] | rfl, by rw [HAN.out]; rfl, by have := HK.out; omega, by omega, HBd.out⟩
            | false =>
              cases ce : eqK ⟨r0, r1, r2⟩ ⟨a2, a3, a4⟩ with
              | true =>
                have HE := Lib.hid ce
                have cf := eq52 r0 r1 r2 a2 a3 a4
                rw [ce] at cf
                clear ce
                refine start_ (n := 17) (S := fun w' => w'.cell? ⟨gq, k * 3, none⟩ = some (.int .i64 r0) ∧ w'.cell? ⟨gq, k * 3 + 1, none⟩ = some (.int .i64 r1) ∧ w'.cell? ⟨gq, k * 3 + 2, none⟩ = some (.int .i64 r2) ∧ w'.cell? ⟨ga, j * 11 + 2, none⟩ = some (.int .i64 a2) ∧ w'.cell? ⟨ga, j * 11 + 3, none⟩ = some (.int .i64 a3) ∧ w'.cell? ⟨ga, j * 11 + 4, none⟩ = some (.int .i64 a4) ∧ w'.cell? ⟨g, 2, none⟩ = some (.slice (some ⟨ga, 0, none⟩) X.length cx)) (ds := []) #[false, false, false, false, false, false, false, false, false, false, false, false, false, false, false, false, false] (by kernel_rfl) rfl rfl ⟨p0, p1, p2, z2, z3, z4, x2⟩ (fun hHeld => ?_)
                generalize wr.drew = wd at HBd p0 p1 p2 z2 z3 z4 x2 hHeld ⊢
                refine pA 0 (some 80) rfl rfl zbc1 zbc0 ?_
                refine pA 1 (some 81) rfl rfl zbc1 zbc0 ?_
                refine pA 2 (some 82) rfl rfl zbc1 zbc0 ?_
                refine pA 3 (some 83) rfl rfl zbc1 zbc0 ?_
                refine pA 4 (some 84) rfl rfl zbc1 zbc0 ?_
                refine pA 6 (some 86) rfl rfl zbc1 zbc0 ?_
                refine pA 7 (some 87) rfl rfl zbc1 zbc0 ?_
                refine pA 8 (some 88) rfl rfl zbc1 zbc0 ?_
                refine pA 10 (some 90) rfl rfl zbc1 zbc0 ?_
                refine tA 5 (some 85) rfl rfl zbc2 hHeld zbc0 ?_
                refine tA 9 (some 89) rfl rfl zbc2 hHeld zbc0 ?_
                refine pA 11 (some 91) rfl rfl zbc1 zbc0 ?_
                refine pA 12 (some 92) rfl rfl zbc1 zbc0 ?_
                refine tA 13 (some 93) rfl rfl zbc2 hHeld zbc0 ?_
                refine pA 14 (some 94) rfl rfl zbc1 zbc0 ?_
                refine pA 15 (some 95) rfl rfl zbc1 zbc0 ?_
                refine pA 16 (some 14) rfl rfl zbc1 zbc0 ?_
                refine done_ (by kernel_rfl) ?_
                go_wp2
                go_roundg kB
                case measure => omega
                case rel => exact ⟨k + 1, by first | rw [HE2.out] | rfl, by rw [HAN.out, HE.out]; rfl, by have := HK.out; omega, by omega, HBd.out⟩
              | false =>
                have HE := Lib.hid ce
                have cf := eq52 r0 r1 r2 a2 a3 a4
                rw [ce] at cf
                clear ce
                refine start_ (n := 17) (S := fun w' => w'.cell? ⟨gq, k * 3, none⟩ = some (.int .i64 r0) ∧ w'.cell? ⟨gq, k * 3 + 1, none⟩ = some (.int .i64 r1) ∧ w'.cell? ⟨gq, k * 3 + 2, none⟩ = some (.int .i64 r2) ∧ w'.cell? ⟨ga, j * 11 + 2, none⟩ = some (.int .i64 a2) ∧ w'.cell? ⟨ga, j * 11 + 3, none⟩ = some (.int .i64 a3) ∧ w'.cell? ⟨ga, j * 11 + 4, none⟩ = some (.int .i64 a4) ∧ w'.cell? ⟨g, 2, none⟩ = some (.slice (some ⟨ga, 0, none⟩) X.length cx)) (ds := []) #[false, false, false, false, false, false, false, false, false, false, false, false, false, false, false, false, false] (by kernel_rfl) rfl rfl ⟨p0, p1, p2, z2, z3, z4, x2⟩ (fun hHeld => ?_)
                generalize wr.drew = wd at HBd p0 p1 p2 z2 z3 z4 x2 hHeld ⊢
                refine pA 0 (some 80) rfl rfl zbc1 zbc0 ?_
                refine pA 1 (some 81) rfl rfl zbc1 zbc0 ?_
                refine pA 2 (some 82) rfl rfl zbc1 zbc0 ?_
                refine pA 3 (some 83) rfl rfl zbc1 zbc0 ?_
                refine pA 4 (some 84) rfl rfl zbc1 zbc0 ?_
                refine pA 6 (some 86) rfl rfl zbc1 zbc0 ?_
                refine pA 7 (some 87) rfl rfl zbc1 zbc0 ?_
                refine pA 8 (some 88) rfl rfl zbc1 zbc0 ?_
                refine pA 10 (some 90) rfl rfl zbc1 zbc0 ?_
                refine tA 5 (some 85) rfl rfl zbc2 hHeld zbc0 ?_
                refine tA 9 (some 89) rfl rfl zbc2 hHeld zbc0 ?_
                refine pA 11 (some 91) rfl rfl zbc1 zbc0 ?_
                refine pA 12 (some 92) rfl rfl zbc1 zbc0 ?_
                refine tA 13 (some 93) rfl rfl zbc2 hHeld zbc0 ?_
                refine pA 14 (some 94) rfl rfl zbc1 zbc0 ?_
                refine pA 15 (some 95) rfl rfl zbc1 zbc0 ?_
                refine pA 16 (some 14) rfl rfl zbc1 zbc0 ?_
                refine done_ (by kernel_rfl) ?_
                go_wp2
                go_roundg kB
                case measure => omega
                case rel => exact ⟨k + 1, by first | rw [HE2.out] | rfl, by rw [HAN.out, HE.out]; rfl, by have := HK.out; omega, by omega, HBd.out⟩
        · have d3 : decide ((k : Int) < (keys.length : Int)) = false := decide_eq_false (by omega)
          have hke : k = keys.length := by omega
          subst hke
          rw [List.take_length]
          have hrgd := rangeAt_below HRG.out hbk
          have z0 := hrgd 0 _ rfl
          rw [Nat.add_zero] at z0
          have z1 := hrgd 1 _ rfl
          have x2 := ck (blk_below HCELj.out hbk) 2 _ rfl
          have HRGk := Lib.hid hrgd
          have HRk := Lib.hid (Kd.R_below HRr.out hbk)
          have HBk := Lib.hid (HBr.out.trans (hbk.mono HBr.out.size))
          obtain ⟨b1, hb1⟩ : ∃ b, b = (a0.toList == font.toList) := ⟨_, rfl⟩
          obtain ⟨b2, hb2⟩ : ∃ b, b = (a1 == v) := ⟨_, rfl⟩
          obtain ⟨b3, hb3⟩ : ∃ b, b = anyK keys ⟨a2, a3, a4⟩ := ⟨_, rfl⟩
          have HWN := Lib.hid (show wants font v keys ⟨a0, a1, ⟨a2, a3, a4⟩, ⟨a5, a6, a7⟩, a8, a9, a10⟩ = (b1 && (b2 && b3)) from by unfold wants; rw [hb1, hb2, hb3, anyK_has])
          rw [← hb3]
          have f1 := hb1.symm
          have f2 := hb2.symm
          clear hb1 hb2 hb3 hrgd hbk hk hkl y2 c1
          cases b3 with
          | false =>
            have HWN := Lib.hid (HWN.out.trans (show (b1 && (b2 && false)) = false by simp))
            go_wp2
            go_roundg kA1
            case measure => omega
            case rel =>
             have h1 := HSN.out
             rw [if_neg (by rw [HWN.out]; simp), List.append_nil] at h1
             exact ⟨j + 1, Y, zbc4, by have := HJ.out; omega, by have := HJL.out; omega, HBk.out, HRk.out, HYE.out.trans h1.symm⟩
          | true =>
            cases b1 with
            | false =>
              go_wp2
              go_roundg kA1
              case measure => omega
              case rel =>
               have h1 := HSN.out
               rw [if_neg (by rw [HWN.out]; simp), List.append_nil] at h1
               exact ⟨j + 1, Y, zbc4, by have := HJ.out; omega, by have := HJL.out; omega, HBk.out, HRk.out, HYE.out.trans h1.symm⟩
            | true =>
              cases b2 with
              | false =>
                go_wp2
                go_roundg kA1
                case measure => omega
                case rel =>
                 have h1 := HSN.out
                 rw [if_neg (by rw [HWN.out]; simp), List.append_nil] at h1
                 exact ⟨j + 1, Y, zbc4, by have := HJ.out; omega, by have := HJL.out; omega, HBk.out, HRk.out, HYE.out.trans h1.symm⟩
              | true =>
                go_wp2_with (first
                 | (refine wpList_load_mid rfl 55 (.tmp 127) rfl ga (j * 11) rfl (#[.string a0, .int .i64 a1, .int .i64 a2, .int .i64 a3, .int .i64 a4, .int .i64 a5, .int .i64 a6, .int .i64 a7, .string a8, .int .i64 a9, .slice aA a10.length ac] : Array Value).toList _ HRGk.out Try.underlying55 rfl (inf11 rfl) ?_)
                 | ((with_reducible refine gate_builtin (b := .append) (xs := #[.tmp 121, .tmp 129]) rfl ?_); at_builtin
                    go_loud (refine Kd.R_append kPp (w0 := w5) (W := wr) w5.heap.size rfl (.tmp 121) (.tmp 129) 42 55 (.agg ZP) 120 rfl und42 info55' rfl (show 0 < 11 by omega) (by omega) u12 Y (⟨⟨a0, a1, ⟨a2, a3, a4⟩, ⟨a5, a6, a7⟩, a8, a9, a10⟩, aA, ac, asz, atm⟩ : Kp) [.string a0, .int .i64 a1, .int .i64 a2, .int .i64 a3, .int .i64 a4, .int .i64 a5, .int .i64 a6, .int .i64 a7, .string a8, .int .i64 a9, .slice aA a10.length ac] (fun _ => True) (fun _ => False) rfl ?aX ?aP (fun _ hk => hk.elim) ?aF ?aO ?aB ?aS ?aL ?_)
                    go_loud (case aX => rfl)
                    go_loud (case aP => exact rfl)
                    go_loud (case aF => exact fun _ _ => trivial)
                    go_loud (case aO => exact HRk.out)
                    go_loud (case aB => exact HBk.out)
                    go_loud (case aS => exact HBk.out.size)
                    go_loud (case aL => have h_ := congrArg List.length HYE.out; have h2_ := List.length_filter_le (fun x : Kp => wants font v keys x.p) (X.take j); rw [List.length_take] at h2_; have := HN.out; omega)
                    intro v9 w9 ho9 hb9 hg9 hat9
                    have HO9 := Lib.hid ho9
                    have HB9 := Lib.hid hb9
                    clear ho9 hb9 hg9 hat9))
                go_roundg kA1
                case measure => omega
                case rel =>
                 have h1 := HSN.out
                 rw [if_pos (by rw [HWN.out]; simp)] at h1
                 exact ⟨j + 1, _, zbc4, by have := HJ.out; omega, by have := HJL.out; omega, HB9.out, HO9.out, by rw [HYE.out]; exact h1.symm⟩
   · have d2 : decide ((j : Int) < (X.length : Int)) = false := decide_eq_false (by omega)
     have hje : j = X.length := by omega
     subst hje
     obtain ⟨A3, c3, rfl⟩ := Kd.R_slice hr
     rw [List.take_length] at hY
     have hmap : Y.map Kp.p = askL font v keys (X.map Kp.p) := by
      unfold askL
      rw [List.filter_map, hY]
      rfl
     have hsub : ∀ y ∈ Y, y ∈ X := fun y hy => by rw [hY] at hy; exact (List.mem_filter.1 hy).1
     have hok : ∀ p ∈ Y.map Kp.p, POk p := fun p hp => by
      obtain ⟨y, hy, rfl⟩ := List.mem_map.1 hp
      exact (HRS5.out.good y (hsub y hy)).2.2.ok
     have hYl : (Y.map Kp.p).length ≤ 9000 := by
      rw [List.length_map, hY]
      have := List.length_filter_le (fun x : Kp => wants font v keys x.p) X
      have := HN.out
      omega
     obtain ⟨kt, hkt⟩ := (refTold_ev (Y.map Kp.p) hYl hok).rounds
     have HKT := Lib.hid hkt
     have HC3 := Lib.hid (Kd.R_reads' hr).2.1
     have HBd := Lib.hid HBr.out.drew
     have HRd := Lib.hid (HRS5.out.below HBd.out)
     have HCC := Lib.hid (kPp_C (Kd.C_drew (Kd.R_reads' hr).2.2) (HRd.out.goodC hsub))
     have HXd := Lib.hid (blk_below HBX5.out HBd.out)
     have HCd := Lib.hid (blk_below HCELL.out HBd.out)
     have HMP := Lib.hid hmap
     clear hkt hYl hok hsub hmap hb hr hj hjl hY c0
     go_upto_region 22 with fail
     have q0 : wr.drew.cell? ⟨g, 0, none⟩ = some (.int .i64 no) := ck HCd.out 0 _ rfl
     have b0 : wr.drew.cell? ⟨w.heap.size, 0, none⟩ = some (.int .i64 fr) := ck HXd.out 0 _ rfl
     clear y2
     refine start_ (n := 11) (S := fun w' => w'.cell? ⟨g, 0, none⟩ = some (.int .i64 no) ∧ w'.cell? ⟨w.heap.size, 0, none⟩ = some (.int .i64 fr)) (ds := []) #[false, false, false, false, false, false, false, false, false, false, false] (by kernel_rfl) rfl rfl ⟨q0, b0⟩ (fun hHeld => ?_)
     generalize wr.drew = wd at HBd HRd HCC HXd HCd q0 b0 hHeld ⊢; have HX_ := Lib.hid (Below.refl wd.heap.size wd)
     refine pA 0 (some 131) rfl rfl zbc1 zbc0 ?_
     refine pA 1 (some 132) rfl rfl zbc1 zbc0 ?_
     refine pA 2 (some 133) rfl rfl zbc1 zbc0 ?_
     refine pA 4 (some 135) rfl rfl zbc1 zbc0 ?_
     refine pA 6 (some 137) rfl rfl zbc1 zbc0 ?_
     refine tA 3 (some 134) rfl rfl (by rintro w' ⟨s0, s1⟩; go_simp; with_reducible rfl) hHeld zbc0 ?_
     refine tA 5 (some 136) rfl rfl (by rintro w' ⟨s0, s1⟩; go_simp; with_reducible rfl) hHeld zbc0 ?_
     refine oA 7 (some 138) rfl rfl (fun K hK => ?_)
     refine goes_ Try.func23 (by kernel_rfl) rfl #[.slice A3 Y.length c3] (by rfl) rfl rfl (by simp only [List.map_toArray, List.map_cons, List.map_nil]; rfl) ?_
     with_reducible refine (refTold_n kt A3 c3 Y _ _ HCC.out HC3.out HKT.out).mono ?_
     rintro e wx ⟨rfl, hbx⟩
     refine ⟨_, rfl, ?_⟩
     have n_ := Lib.hid (HX_.out.trans (hbx.mono HX_.out.size)); clear HX_; have HX_ := n_; clear n_
     refine hK.out _ _ ⟨(HX_.out.cell (World.block_lt_of_cell? _ _ q0)).trans q0, (HX_.out.cell (World.block_lt_of_cell? _ _ b0)).trans b0⟩ (fun hHeld => norm_ (by show Act.put _ (some _) _ = _; simp only [Act.put, nS]; rfl) ?_)
     clear hK K
     refine pA 8 (some 139) rfl rfl zbc1 zbc0 ?_
     refine oA 9 (some 140) rfl rfl (fun K hK => ?_)
     refine value_ (w1 := ?_) (v := ?_) (by rfl) rfl ?_ ?_
     rotate_left 2
     · go_simp
       constructor
       · rfl
       · rfl
     refine hK.out _ _ ⟨((below_alloc (Below.refl wx.heap.size wx) _).cell (Nat.lt_of_lt_of_le (World.block_lt_of_cell? _ _ q0) HX_.out.size)).trans ((HX_.out.cell (World.block_lt_of_cell? _ _ q0)).trans q0), ((below_alloc (Below.refl wx.heap.size wx) _).cell (Nat.lt_of_lt_of_le (World.block_lt_of_cell? _ _ b0) HX_.out.size)).trans ((HX_.out.cell (World.block_lt_of_cell? _ _ b0)).trans b0)⟩ (fun hHeld => norm_ (by show Act.put _ (some _) _ = _; simp only [Act.put, nS]; rfl) ?_)
     clear hK K
     refine pA 10 (some 4) rfl rfl zbc1 zbc0 ?_
     refine done_ (by kernel_rfl) ?_
     go_wp2
     go_ret
     exact ⟨_, rfl, by have h1 := HB5.out.size; have h2 := HBd.out.size; have h3 := HX_.out.size; omega, by rw [← HMP.out]; exact blk_new _ _, below_alloc (HB5.out.trans ((HBd.out.trans (HX_.out.mono HBd.out.size)).mono HB5.out.size)) _⟩
end Go.Proofs.Ythokkeljfdfppaa.Rl
