/- SignChecks. -/
import Derived.Test.YtoolionhheiihaaSgY
import Derived.Deep.DeepCutAuto
import Derived.Deep.CutBlock
set_option linter.unusedVariables false
set_option linter.unusedSimpArgs false
namespace Go.Proofs.Ytoolionhheiihaa.Sg
open Go.RowKit Go.Proofs.YtoolionhheiihaaW.PrintWords Go.Proofs.YtoolionhheiihaaW.PrintLast Go.Proofs.YtoolionhheiihaaW.PrintMore Go.Proofs.Ytoolionhheiihaa.Dg Go.Proofs.Ytoolionhheiihaa.Gv Go.Proofs.Ytoolionhheiihaa.Pb Go.Proofs.Ytoolionhheiihaa.Gw Go.Proofs.Ytoolionhheiihaa.Pure
/-- The reference's reader reads a signature, too. -/
theorem ref_sig_read (seed : ByteArray) (n i : Nat) (m : ByteArray) (h1 : 1 ≤ n) (hn : n ≤ 16) (hi : i < n) : ∃ i1 i2 i3 : Int, Ev (fun k => abugidaref02_Reader_Int.f k (SigB seed n i m) 0 false) ((i : Int), SigB seed n i m, i1, false) ∧
    Ev (fun k => abugidaref02_Reader_Texts.f k (SigB seed n i m) i1 false) (sgs seed i (OfB m) 18, SigB seed n i m, i2, false) ∧ Ev (fun k => abugidaref02_Reader_Texts.f k (SigB seed n i m) i2 false) (ProofF (lvs seed n) i, SigB seed n i m, i3, false) := by
  have hP1 := ProofF_lvs seed n h1 hn i
  have hL18 := sgs_length seed i (OfB m) 18
  have hL8 := sgs_size seed i (OfB m) 18
  have hz := SigB_size seed n i m h1 hn hi
  obtain ⟨e1, e2, e3⟩ := sig_read i (sgs seed i (OfB m) 18) (ProofF (lvs seed n) i) ⟨#[]⟩ (by omega) (by omega) (by omega) (fun t h => by rw [hL8 t h]; omega) (fun t h => Nat.le_trans (hP1.2 t h) (by omega)) (by decide)
  simp only [append_nil] at e1 e2 e3
  have kA : (IntB (i : Int) ++ TextsB (sgs seed i (OfB m) 18)) ++ TextsB (ProofF (lvs seed n) i) = SigB seed n i m := rfl
  rw [kA] at e1
  generalize SigB seed n i m = sig at *
  generalize sgs seed i (OfB m) 18 = L at *
  generalize ProofF (lvs seed n) i = P at *
  obtain ⟨x, q1, i1, b1, p1, r1, s1, _⟩ := Int_same sig (by omega) sig false 0 ⟨rfl, fun _ => ⟨0, rfl, by omega, by simp⟩⟩
  have u1 := Ev.unique p1 e1
  simp only [Prod.mk.injEq] at u1
  obtain ⟨rfl, rfl, rfl⟩ := u1
  obtain ⟨l, q2, i2, b2, p2, r2, s2, _⟩ := Texts_same2 sig (by omega) _ _ _ s1
  have u2 := Ev.unique p2 e2
  simp only [Prod.mk.injEq] at u2
  obtain ⟨rfl, rfl, rfl⟩ := u2
  obtain ⟨l3, q3, i3, b3, p3, r3, s3, _⟩ := Texts_same2 sig (by omega) _ _ _ s2
  have u3 := Ev.unique p3 e3
  simp only [Prod.mk.injEq] at u3
  obtain ⟨rfl, rfl, rfl⟩ := u3
  exact ⟨i1, i2, i3, r1, r2, r3⟩
theorem conv1 (W : World) (b : Nat) (x : Int) (hW : W.heap[b]? = some (.cells #[.int .u8 x] 5 (0, 0))) : (convert 51 9 (.slice (some ⟨b, 0, none⟩) 1 1)).run Try.prog W = .ok (.string (strOfNums [x])) W :=
  run_convert_bytes_arg W _ _ Try.underlying51 Try.underlying5 b 0 1 1 [x] rfl (fun i hi => by rw [Nat.zero_add]; match i, hi with | 0, _ => exact cell_of_one hW) _ Try.underlying9
theorem R_some {α : Type} {d : Kd α} {e base n c : Nat} {W : World} {ok : Nat → Prop} {A : Option Addr} {l : List α} (h : d.R e W base ok (.slice A n c) l) (hl : 0 < l.length) : ∃ g, A = some ⟨g, 0, none⟩ := by
  have hn := (Kd.R_reads' h).1
  obtain ⟨inner, h1, h2⟩ := Kd.R_own h
  rcases h2 with ⟨h3, h4⟩ | ⟨g, cap, cur, h3, _⟩
  · injection h3 with _ h3 _; omega
  · injection h3 with h3 _ _; exact ⟨g, h3⟩
theorem R_set1 {e base n c g : Nat} {W : World} {ok : Nat → Prop} {l : List ByteArray} (h : Kd.R Kd.string e W base ok (.slice (some ⟨g, 0, none⟩) n c) l) (i : Int) (h0 : 0 ≤ i) (h1 : i < n) (x : ByteArray) :
    Kd.R Kd.string e (W.setCell ⟨g, i.toNat, none⟩ (.string x)) base ok (.slice (some ⟨g, 0, none⟩) n c) (l.set i.toNat x) := by
  have hf := Kd.foot_string (Kd.R_reads' h).2.2 i h0 (by have := (Kd.R_reads' h).1; omega)
  rw [show (⟨g, 0, none⟩ : Addr).add i.toNat = ⟨g, i.toNat, none⟩ by unfold Addr.add; split <;> simp_all] at hf
  have := (Kd.R_seg h i h0 h1 (c := [.string (rdOf ByteArray.empty l i)]) (seg := [.string x]) (j := 0) rfl (fun j u hj => by
    cases j with
    | succ j => simp at hj
    | zero =>
      simp at hj
      subst hj
      show W.cell? ⟨g, i.toNat * 1 + 0, none⟩ = _
      rw [show i.toNat * 1 + 0 = i.toNat by omega]
      exact hf) (by show 0 + 1 ≤ 1; omega) (x' := x) (okp := fun _ => False) rfl (fun _ hk => hk.elim)).1
  rw [show i.toNat * Kd.string.sz + 0 = i.toNat by show i.toNat * 1 + 0 = _; omega] at this
  exact this
theorem R_cell {e base n c g : Nat} {W : World} {ok : Nat → Prop} {l : List ByteArray} (h : Kd.R Kd.string e W base ok (.slice (some ⟨g, 0, none⟩) n c) l) (i : Int) (h0 : 0 ≤ i) (h1 : i < n) :
    W.cell? ⟨g, i.toNat, none⟩ = some (.string (rdOf ByteArray.empty l i)) ∧ W.frozen? ⟨g, i.toNat, none⟩ = false := by
  have hf := Kd.foot_string (Kd.R_reads' h).2.2 i h0 (by have := (Kd.R_reads' h).1; omega)
  rw [show (⟨g, 0, none⟩ : Addr).add i.toNat = ⟨g, i.toNat, none⟩ by unfold Addr.add; split <;> simp_all] at hf
  obtain ⟨inner, ho⟩ := Kd.R_own h
  obtain ⟨cells, hc⟩ := own_typed ho g (by simp [Value.ownBlock])
  exact ⟨hf, blk_frozen hc _⟩
theorem rd_mem (l : List ByteArray) (i : Int) (h0 : 0 ≤ i) (h1 : i < l.length) : rdOf ByteArray.empty l i ∈ l := by
  rw [rdOf, List.getD_eq_getElem?_getD, List.getElem?_eq_getElem (by omega)]
  exact List.getElem_mem _
/-- What the switch leaves. -/
def CutR (w : World) (cs : Array Value) (T : TypeId) (s1 s9 s10 s15 s16 : Value) (wx : World) : Prop :=
  ∃ (m' : ByteArray) (i' : Int) (pub' : ByteArray) (L' P' : List ByteArray) (A1 : Option Addr) (c1 : Nat) (A2 : Option Addr) (c2 : Nat), s1 = .string m' ∧ s9 = .int .i64 i' ∧ s10 = .string pub' ∧ s15 = .slice A1 L'.length c1 ∧ s16 = .slice A2 P'.length c2 ∧
    m'.size ≤ 9000 ∧ (-9223372036854775808 ≤ i' ∧ i' ≤ 9223372036854775807) ∧ (L'.length ≤ 19 ∧ ∀ s ∈ L', s.size ≤ 9) ∧ (L'.length ≤ c1 ∧ Kd.C Kd.string wx A1 L'.length L') ∧ (P'.length ≤ 6 ∧ ∀ s ∈ P', s.size ≤ 9) ∧ (P'.length ≤ c2 ∧ Kd.C Kd.string wx A2 P'.length P') ∧
    wx.heap[w.heap.size]? = some (.cells cs T (0, 0)) ∧ Below w.heap.size w wx
theorem SigB_500 (seed : ByteArray) (n i : Nat) (m : ByteArray) (h1 : 1 ≤ n) (hn : n ≤ 16) (hi : i < n) : (SigB seed n i m).size ≤ 500 := by
  have hP := ProofF_lvs seed n h1 hn i
  have h2 := IntB_small (i : Int) (by omega) (by omega)
  have h3 := TextsB_size (sgs seed i (OfB m) 18) (by rw [sgs_length]; omega) (fun s h => Nat.le_of_eq (sgs_size _ _ _ _ s h))
  have h4 := TextsB_size (ProofF (lvs seed n) i) (by omega) hP.2
  rw [sgs_length] at h3
  rw [SigB]
  simp only [ByteArray.size_append]
  omega
set_option maxHeartbeats 8000000 in
set_option maxRecDepth 100000 in
theorem checks_walk (w : World) (a0 a1 : ByteArray) (q0 q1 q2 q3 q4 : Int) (b0 : 0 ≤ q0 ∧ q0 ≤ 255) (b1 : 0 ≤ q1 ∧ q1 ≤ 255) (b2 : 0 ≤ q2 ∧ q2 ≤ 255) (b3 : 0 ≤ q3 ∧ q3 ≤ 255) (b4 : 0 ≤ q4 ∧ q4 ≤ 255) :
    Calls Try.prog 7 #[.string a0, .string a1, .agg #[.int .u8 q0, .int .u8 q1, .int .u8 q2, .int .u8 q3, .int .u8 q4]] w fun e w' => e = .returned (.bool true) ∧ Below w.heap.size w w' := by
  obtain ⟨n, i, h1, h5, hi, hsome⟩ := some_calls q0 q1 b0 b1 w
  obtain ⟨s, hs⟩ : ∃ s, s = c200 a0 := ⟨_, rfl⟩
  obtain ⟨m, hm⟩ : ∃ m, m = c200 a1 := ⟨_, rfl⟩
  have hsz := c200_size a0
  have hmz := c200_size a1
  have HSH := Lib.hid (fun W => short_calls a0 W)
  have HMH := Lib.hid (fun W => short_calls a1 W)
  rw [← hs] at hsz HSH
  rw [← hm] at hmz HMH
  have HSO := Lib.hid hsome
  obtain ⟨i1, i2, i3, e1, e2, e3⟩ := ref_sig_read s n i m h1 (by omega) hi
  obtain ⟨kr, k1, k2, k3⟩ := Ev.three e1 e2 e3
  obtain ⟨kp, hkp⟩ := (Public_ev s (by omega) n h1 (by omega)).rounds
  obtain ⟨ks, hks⟩ := (Sign_ev s (by omega) n i h1 (by omega) hi m (by omega)).rounds
  have hP1 := ProofF_lvs s n (by omega) (by omega) i
  have hL18 := sgs_length s i (OfB m) 18
  have hL8 := sgs_size s i (OfB m) 18
  have hz := SigB_size s n i m h1 (by omega) hi
  have hz5 := SigB_500 s n i m h1 (by omega) hi
  have hp8 : (PubB s n).size = 8 := RootF_size _
  generalize ProofF (lvs s n) i = P at *
  generalize sgs s i (OfB m) 18 = L at *
  generalize SigB s n i m = sig at *
  generalize PubB s n = pub at *
  have KR1 := Lib.hid k1
  have KR2 := Lib.hid k2
  have KR3 := Lib.hid k3
  have KP := Lib.hid hkp
  have KS := Lib.hid hks
  have HL18 := Lib.hid hL18
  have HL8 := Lib.hid hL8
  have HP1 := Lib.hid hP1
  have HP8 := Lib.hid hp8
  obtain ⟨z1, z2⟩ := hz
  have HZ5 := Lib.hid hz5
  have hlb : L.length ≤ 9223372036854775807 := by omega
  obtain ⟨Wb, hWb⟩ : ∃ W, W = w.alloc (.cells #[.int .u8 q0, .int .u8 q1, .int .u8 q2, .int .u8 q3, .int .u8 q4] 48) := ⟨_, rfl⟩
  have hbb : Below w.heap.size w Wb := by rw [hWb]; exact below_alloc (Below.refl _ _) _
  have hbl : Wb.heap[w.heap.size]? = some (.cells #[.int .u8 q0, .int .u8 q1, .int .u8 q2, .int .u8 q3, .int .u8 q4] 48 (0, 0)) := by rw [hWb]; exact blk_new w _
  have HBB := Lib.hid hbb
  have HBL := Lib.hid hbl
  have HWb := Lib.hid hWb
  have hlen := len_strs
  -- which one of the strings, and what is changed
  obtain ⟨ix, hix⟩ : ∃ x, x = q3 % 18 := ⟨_, rfl⟩
  have ix0 : 0 ≤ ix := by omega
  have ix1 : ix < 18 := by omega
  have hL18i : (L.length : Int) = 18 := by omega
  obtain ⟨wh, hwh⟩ : ∃ x, x = q2 % 8 := ⟨_, rfl⟩
  have wh0 : 0 ≤ wh := by omega
  have wh1 : wh < 8 := by omega
  have t3 : wrap64 q3 = q3 := w64 (by omega) (by omega)
  have tm3 : Int.tmod q3 (L.length : Int) = ix := by rw [hL18i, Int.tmod_eq_emod_of_nonneg b3.1, hix]
  have tm2 : Int.tmod q2 8 = wh := by rw [Int.tmod_eq_emod_of_nonneg b2.1, hwh]
  have HIX := Lib.hid hix
  have HWH := Lib.hid hwh
  have d18 : ((L.length : Int) == 0) = false := by rw [hL18i]; rfl
  have d18b : ¬ L.length = 0 := by omega
  clear hs hm hsome hbb hbl hWb e1 e2 e3 k1 k2 k3 hkp hks hL18 hL8 hP1 hp8 hix hwh hL18i hz5
  go_enter Try.func7, Try.ntmps7
  go_upto_block 0 with (first
    | ((go_at_call 10); rw [← HWb.out]; (with_reducible refine (sanity_any _).mono ?_); rintro e w1 ⟨rfl, hx1⟩; have HX := Lib.hid (HBB.out.trans (hx1.mono HBB.out.size)); have HQ := Lib.hid ((hx1.block _ (lt_of_block HBL.out)).trans HBL.out); clear hx1)
    | ((go_at_call 11); (first
      | ((with_reducible refine (HSH.out w1).mono ?_); rintro e w2 ⟨rfl, hbx⟩; have n_ := Lib.hid ((hbx.block _ (lt_of_block HQ.out)).trans HQ.out); clear HQ; have HQ := n_; clear n_; have n_ := Lib.hid (HX.out.trans (hbx.mono HX.out.size)); clear HX hbx; have HX := n_; clear n_)
      | ((with_reducible refine (HMH.out w2).mono ?_); rintro e w3 ⟨rfl, hbx⟩; have n_ := Lib.hid ((hbx.block _ (lt_of_block HQ.out)).trans HQ.out); clear HQ; have HQ := n_; clear n_; have n_ := Lib.hid (HX.out.trans (hbx.mono HX.out.size)); clear HX hbx; have HX := n_; clear n_; have c0 : w3.cell? ⟨w.heap.size, 0, none⟩ = some (.int .u8 q0) := ck HQ.out _ _ rfl; have c1 : w3.cell? ⟨w.heap.size, 1, none⟩ = some (.int .u8 q1) := ck HQ.out _ _ rfl)))
    | ((go_at_call 17); (with_reducible refine (HSO.out _).mono ?_); rintro e w4 ⟨rfl, hbd⟩; have hbx := drawn_below hbd; have n_ := Lib.hid ((hbx.block _ (lt_of_block HQ.out)).trans HQ.out); clear HQ; have HQ := n_; clear n_; have n_ := Lib.hid (HX.out.trans (hbx.mono HX.out.size)); clear HX hbx hbd c0 c1; have HX := n_; clear n_)
    | ((go_at_call 14); (with_reducible refine (abugidaref04_Public.calls kp s n pub 0 _ KP.out).mono ?_); rintro e w5 ⟨rfl, hbx⟩; have n_ := Lib.hid ((hbx.block _ (lt_of_block HQ.out)).trans HQ.out); clear HQ; have HQ := n_; clear n_; have n_ := Lib.hid (HX.out.trans (hbx.mono HX.out.size)); clear HX hbx; have HX := n_; clear n_)
    | ((go_at_call 16); (with_reducible refine (abugidaref04_Sign.calls ks s n i m sig 0 _ KS.out).mono ?_); rintro e w6 ⟨rfl, hbx⟩; have n_ := Lib.hid ((hbx.block _ (lt_of_block HQ.out)).trans HQ.out); clear HQ; have HQ := n_; clear n_; have n_ := Lib.hid (HX.out.trans (hbx.mono HX.out.size)); clear HX hbx; have HX := n_; clear n_)
    | ((go_at_call 29); (with_reducible refine (abugidaref02_New.calls sig sig 0 false w6 _ (Below.refl _ _) rfl).mono ?_); rintro e w7 ⟨g, rfl, hi7, -, hbx⟩; have HX6 := HX; have hgne : w.heap.size ≠ g := (by have h_ := hi7.2; have h2_ := lt_of_block HQ.out; omega); have HI7 := Lib.hid hi7; have HB67 := Lib.hid hbx; have n_ := Lib.hid ((hbx.block _ (lt_of_block HQ.out)).trans HQ.out); clear HQ; have HQ := n_; clear n_; have n_ := Lib.hid (HX.out.trans (hbx.mono HX.out.size)); clear HX hbx hi7; have HX := n_; clear n_)
    | ((go_at_call 30); (with_reducible refine (abugidaref02_Reader_Int.calls kr g sig 0 false i sig i1 false w6 _ HI7.out HB67.out KR1.out).mono ?_); rintro e w8 ⟨rfl, hi8, hb8, hk8⟩; have HI8 := Lib.hid hi8; have HB68 := Lib.hid hb8; have n_ := Lib.hid ((hk8.2 _ (lt_of_block HQ.out) hgne (by simp)).trans HQ.out); clear HQ; have HQ := n_; clear n_ HX hi8 hb8 hk8)
    | ((go_at_call 31); (first
      | ((with_reducible refine (abugidaref02_Reader_Texts.calls kr g sig i1 false L sig i2 false w6 _ HI8.out HB68.out KR2.out).mono ?_); rintro e w9 ⟨v9, rfl, hR9, hi9, hb9, hk9⟩; have HI9 := Lib.hid hi9; have HB69 := Lib.hid hb9; have HR9 := Lib.hid hR9; have hw8 : w.heap.size < w8.heap.size := (lt_of_block HQ.out); have n_ := Lib.hid ((hk9.2 _ (lt_of_block HQ.out) hgne (by simp)).trans HQ.out); clear HQ; have HQ := n_; have hw9 : w.heap.size < w9.heap.size := (lt_of_block HQ.out); have h89 := hk9.1; clear n_ hi9 hb9 hk9 hR9)
      | ((with_reducible refine (abugidaref02_Reader_Texts.calls kr g sig i2 false P sig i3 false w6 _ HI9.out HB69.out KR3.out).mono ?_); rintro e wa ⟨va, rfl, hRa, hia, hba, hka⟩; have HL := Lib.hid (Kd.R_mono (Kd.R_keep (HI9.out.apart (Kd.R_bound HR9.out) (by decide)) hka (fun _ h => h.2)) (fun k h => h.1.2.2.1)); have HPP := Lib.hid (Kd.R_mono (Kd.R_bound hRa) (fun k h => h.2.1)); have HX := Lib.hid (HX6.out.trans (hba.mono HX6.out.size)); have n_ := Lib.hid ((hka.2 _ (lt_of_block HQ.out) hgne (by simp)).trans HQ.out); clear HQ; have HQ := n_; have h9a := hka.1; clear n_ hia hba hka hRa; have c3 : wa.cell? ⟨w.heap.size, 3, none⟩ = some (.int .u8 q3) := ck HQ.out _ _ rfl; have c2 : wa.cell? ⟨w.heap.size, 2, none⟩ = some (.int .u8 q2) := ck HQ.out _ _ rfl; obtain ⟨AL, cL, rfl, hlL, hCL⟩ := Kd.R_reads HL.out; clear hCL))))
  obtain ⟨AP, cP, rfl, hlP, hCP⟩ := Kd.R_reads HPP.out
  clear hCP
  have c4 : wa.cell? ⟨w.heap.size, 4, none⟩ = some (.int .u8 q4) := ck HQ.out _ _ rfl
  clear c2 c3 t3 tm3 tm2 d18 d18b
  obtain ⟨gL, rfl⟩ := R_some HL.out (by rw [HL18.out]; omega)
  have hixL : ix < (L.length : Int) := by rw [HL18.out]; omega
  obtain ⟨qx, _⟩ := R_cell HL.out ix ix0 hixL
  have hx8 := HL8.out _ (rd_mem L ix ix0 hixL)
  generalize rdOf ByteArray.empty L ix = x at qx hx8
  have d2 : (0 ≤ ix) = True := eq_true ix0
  have d3 : (ix < (L.length : Int)) = True := eq_true hixL
  have HLg := Lib.hid (show gL < w9.heap.size from HL.out.1 gL (by simp [Value.ownBlock]))
  have HLg8 := Lib.hid (show w8.heap.size ≤ gL from Kd.R_base HL.out gL (by simp [Value.ownBlock]))
  have HCL := Lib.hid (Kd.R_reads' HL.out).2.2
  have HCP := Lib.hid (Kd.R_reads' HPP.out).2.2
  go_cut [1, 9, 10, 15, 16] (fun s1 s9 s10 s15 s16 wx => CutR w #[.int .u8 q0, .int .u8 q1, .int .u8 q2, .int .u8 q3, .int .u8 q4] 48 s1 s9 s10 s15 s16 wx)
  case first =>
    have hwh : wh = 0 ∨ wh = 1 ∨ wh = 2 ∨ wh = 3 ∨ wh = 4 ∨ wh = 5 ∨ wh = 6 ∨ wh = 7 := by omega
    clear wh0 wh1
    rcases hwh with rfl | rfl | rfl | rfl | rfl | rfl | rfl | rfl
    · -- another message
      have hcv := conv1 (wa.alloc (.cells #[.int .u8 q4] 5)) wa.heap.size q4 (blk_new _ _)
      have zz : (m.size + (strOfNums [q4]).size ≤ 9223372036854775807) = True := eq_true (by rw [strOfNums_size]; simp; omega)
      have zy : (9223372036854775807 < m.size + (strOfNums [q4]).size) = False := eq_false (by rw [strOfNums_size]; simp; omega)
      go_wp2
      go_meet
      exact ⟨m ++ strOfNums [q4], i, pub, L, P, _, _, _, _, rfl, rfl, rfl, rfl, rfl, by rw [ByteArray.size_append, strOfNums_size]; simp; omega, by omega, ⟨by rw [HL18.out]; omega, fun t h => by rw [HL8.out t h]; omega⟩, ⟨hlL, Kd.C_below HCL.out (below_alloc (Below.refl wa.heap.size wa) _)⟩, ⟨by have := HP1.out.1; omega, fun t h => by have := HP1.out.2 t h; omega⟩, ⟨hlP, Kd.C_below HCP.out (below_alloc (Below.refl wa.heap.size wa) _)⟩, (blk_below HQ.out (below_alloc (Below.refl wa.heap.size wa) _)), HX.out.trans ((below_alloc (Below.refl wa.heap.size wa) _).mono HX.out.size)⟩
    · -- another link
      have hO := (refOf_ev x (by omega)).rounds
      obtain ⟨ko, hko⟩ := hO
      have HKO := Lib.hid hko
      clear hko
      go_wp2_with ((go_at_call 28); (with_reducible refine (abugidaref03_Of.calls ko x _ _ HKO.out).mono ?_); rintro e wb ⟨rfl, hbx⟩; have HBb := Lib.hid hbx; have HLb := Lib.hid (Kd.R_below HL.out hbx); obtain ⟨qa, qb⟩ := R_cell HLb.out ix ix0 hixL; clear hbx)
      go_meet
      have hR := R_set1 HLb.out ix ix0 hixL (OfB x)
      obtain ⟨A1, c1, e1, hl1, hC1⟩ := Kd.R_reads hR
      rw [List.length_set] at e1 hl1 hC1
      cases e1
      have hPb := Kd.R_far (Kd.R_below HPP.out HBb.out) (p := ⟨gL, ix.toNat, none⟩) (fun k hk e => by have h1_ := HLg.out; simp at e; omega) (.string (OfB x))
      obtain ⟨A2, c2, e2, hl2, hC2⟩ := Kd.R_reads hPb
      cases e2
      have hne : w.heap.size ≠ gL := by have := HLg8.out; omega
      refine ⟨m, i, pub, L.set ix.toNat (OfB x), P, some ⟨gL, 0, none⟩, cL, AP, cP, rfl, rfl, rfl, by rw [List.length_set], rfl, by omega, by omega, ⟨by rw [List.length_set, HL18.out]; omega, fun t h => ?_⟩, ⟨by rw [List.length_set]; exact hl1, by rw [List.length_set]; exact hC1⟩, ⟨by have := HP1.out.1; omega, fun t h => by have := HP1.out.2 t h; omega⟩, ⟨hl2, hC2⟩, (Below.heap_setCell wb ⟨gL, ix.toNat, none⟩ (.string (OfB x)) w.heap.size (by simp; omega)).trans (blk_below HQ.out HBb.out), (HX.out.trans (HBb.out.mono HX.out.size)).setCell (p := ⟨gL, ix.toNat, none⟩) (by have := HLg8.out; simp; omega) _⟩
      rcases List.mem_or_eq_of_mem_set h with h | rfl
      · rw [HL8.out t h]; omega
      · rw [OfB_size]; omega
    · -- a link with a byte more
      have q1 : wa.drew.cell? ⟨gL, ix.toNat, none⟩ = some (.string x) := qx
      have q2 : wa.drew.cell? ⟨w.heap.size, 4, none⟩ = some (.int .u8 q4) := c4
      have hlt1 := World.block_lt_of_cell? _ _ q1
      have hlt2 := World.block_lt_of_cell? _ _ q2
      have HBd := Lib.hid (show Below wa.heap.size wa wa.drew from below_drew (Below.refl _ _))
      have HLd := Lib.hid (Kd.R_below HL.out HBd.out)
      have zz : (x.size + (strOfNums [q4]).size ≤ 9223372036854775807) = True := eq_true (by rw [strOfNums_size]; simp; omega)
      have zy : (9223372036854775807 < x.size + (strOfNums [q4]).size) = False := eq_false (by rw [strOfNums_size]; simp; omega)
      have HX8 := Lib.hid hx8
      clear hx8
      go_wp2
      refine start_ (n := 13) (S := fun w' => w'.cell? ⟨gL, ix.toNat, none⟩ = some (.string x) ∧ w'.cell? ⟨w.heap.size, 4, none⟩ = some (.int .u8 q4)) (ds := [12]) #[false, false, false, false, false, false, false, false, false, false, false, false, false] (by kernel_rfl) rfl rfl ⟨q1, q2⟩ (fun hHeld => ?_)
      generalize wa.drew = wd at HBd HLd q1 q2 hlt1 hlt2 hHeld ⊢
      refine pure_ (i := 0) (N := some 86) (v := ?_) (a' := ?_) #[true, false, false, false, false, false, false, false, false, false, false, false, false] rfl rfl (by kernel_rfl) (fun _ _ _ h => h) (Or.inl ⟨by rfl, ?_⟩) ?_ ?_
      rotate_left
      · intro w'
        go_simp
        with_reducible rfl
      rotate_left
      · simp only [Act.put, List.setIfInBounds_toArray, List.set_cons_zero, List.set_cons_succ, i64_w, i32_w]
        rfl
      refine pure_ (i := 1) (N := some 87) (v := ?_) (a' := ?_) #[true, true, false, false, false, false, false, false, false, false, false, false, false] rfl rfl (by kernel_rfl) (fun _ _ _ h => h) (Or.inl ⟨by rfl, ?_⟩) ?_ ?_
      rotate_left
      · intro w'
        go_simp
        with_reducible rfl
      rotate_left
      · simp only [Act.put, List.setIfInBounds_toArray, List.set_cons_zero, List.set_cons_succ, i64_w, i32_w]
        rfl
      refine pure_ (i := 2) (N := some 88) (v := ?_) (a' := ?_) #[true, true, true, false, false, false, false, false, false, false, false, false, false] rfl rfl (by kernel_rfl) (fun _ _ _ h => h) (Or.inl ⟨by rfl, ?_⟩) ?_ ?_
      rotate_left
      · intro w'
        go_simp
        with_reducible rfl
      rotate_left
      · simp only [Act.put, List.setIfInBounds_toArray, List.set_cons_zero, List.set_cons_succ, i64_w, i32_w]
        rfl
      refine pure_ (i := 3) (N := some 89) (v := ?_) (a' := ?_) #[true, true, true, true, false, false, false, false, false, false, false, false, false] rfl rfl (by kernel_rfl) (fun _ _ _ h => h) (Or.inl ⟨by rfl, ?_⟩) ?_ ?_
      rotate_left
      · intro w'
        go_simp
        with_reducible rfl
      rotate_left
      · simp only [Act.put, List.setIfInBounds_toArray, List.set_cons_zero, List.set_cons_succ, i64_w, i32_w]
        rfl
      refine pure_ (i := 4) (N := some 90) (v := ?_) (a' := ?_) #[true, true, true, true, true, false, false, false, false, false, false, false, false] rfl rfl (by kernel_rfl) (fun _ _ _ h => h) (Or.inl ⟨by rfl, ?_⟩) ?_ ?_
      rotate_left
      · intro w'
        go_simp
        with_reducible rfl
      rotate_left
      · simp only [Act.put, List.setIfInBounds_toArray, List.set_cons_zero, List.set_cons_succ, i64_w, i32_w]
        rfl
      refine pure_ (i := 6) (N := some 92) (v := ?_) (a' := ?_) #[true, true, true, true, true, false, true, false, false, false, false, false, false] rfl rfl (by kernel_rfl) (fun _ _ _ h => h) (Or.inl ⟨by rfl, ?_⟩) ?_ ?_
      rotate_left
      · intro w'
        go_simp
        with_reducible rfl
      rotate_left
      · simp only [Act.put, List.setIfInBounds_toArray, List.set_cons_zero, List.set_cons_succ, i64_w, i32_w]
        rfl
      refine take_ (i := 5) (N := some 91) (v := ?_) (a' := ?_) #[true, true, true, true, true, true, true, false, false, false, false, false, false] rfl rfl (by kernel_rfl) (fun _ _ _ h => h) (Or.inl ⟨by rfl, ?_⟩) hHeld ?_ ?_
      rotate_left
      · rintro w' ⟨s0, s1⟩
        go_simp
        with_reducible rfl
      rotate_left
      · simp only [Act.put, List.setIfInBounds_toArray, List.set_cons_zero, List.set_cons_succ, i64_w, i32_w]
        rfl
      refine take_ (i := 7) (N := some 93) (v := ?_) (a' := ?_) #[true, true, true, true, true, true, true, true, false, false, false, false, false] rfl rfl (by kernel_rfl) (fun _ _ _ h => h) (Or.inl ⟨by rfl, ?_⟩) hHeld ?_ ?_
      rotate_left
      · rintro w' ⟨s0, s1⟩
        go_simp
        with_reducible rfl
      rotate_left
      · simp only [Act.put, List.setIfInBounds_toArray, List.set_cons_zero, List.set_cons_succ, i64_w, i32_w]
        rfl
      refine one_ (i := 8) (N := some 94) #[true, true, true, true, true, true, true, true, true, false, false, false, false] rfl rfl (by kernel_rfl) (by decide) (fun K hK => ?_)
      refine value_ (w1 := ?_) (v := ?_) (by rfl) rfl ?_ ?_
      rotate_left 2
      · go_simp
        constructor
        · rfl
        · rfl
      refine hK.out _ _ ⟨(World.cell?_alloc_lt _ _ _ hlt1).trans q1, (World.cell?_alloc_lt _ _ _ hlt2).trans q2⟩ (fun hHeld => ?_)
      clear hK K
      refine norm_ (a' := ?_) ?_ ?_
      rotate_left
      · show Act.put _ (some 94) _ = _
        simp only [Act.put, List.setIfInBounds_toArray, List.set_cons_zero, List.set_cons_succ, i64_w, i32_w]
        rfl
      refine one_ (i := 9) (N := some 95) #[true, true, true, true, true, true, true, true, true, true, false, false, false] rfl rfl (by kernel_rfl) (by decide) (fun K hK => ?_)
      have hcv := conv1 (wd.alloc (.cells #[.int .u8 q4] 5)) wd.heap.size q4 (blk_new _ _)
      refine value_ (w1 := ?_) (v := ?_) (by rfl) rfl ?_ ?_
      rotate_left 2
      · go_simp
        constructor
        · rfl
        · rfl
      refine hK.out _ _ ⟨(World.cell?_alloc_lt _ _ _ hlt1).trans q1, (World.cell?_alloc_lt _ _ _ hlt2).trans q2⟩ (fun hHeld => ?_)
      clear hK K
      refine norm_ (a' := ?_) ?_ ?_
      rotate_left
      · show Act.put _ (some 95) _ = _
        simp only [Act.put, List.setIfInBounds_toArray, List.set_cons_zero, List.set_cons_succ, i64_w, i32_w]
        rfl
      refine pure_ (i := 10) (N := some 96) (v := ?_) (a' := ?_) #[true, true, true, true, true, true, true, true, true, true, true, false, false] rfl rfl (by kernel_rfl) (fun _ _ _ h => h) (Or.inl ⟨by rfl, ?_⟩) ?_ ?_
      rotate_left
      · intro w'
        go_simp
        with_reducible rfl
      rotate_left
      · simp only [Act.put, List.setIfInBounds_toArray, List.set_cons_zero, List.set_cons_succ, i64_w, i32_w]
        rfl
      refine pure_ (i := 11) (N := some 97) (v := ?_) (a' := ?_) #[true, true, true, true, true, true, true, true, true, true, true, true, false] rfl rfl (by kernel_rfl) (fun _ _ _ h => h) (Or.inl ⟨by rfl, ?_⟩) ?_ ?_
      rotate_left
      · intro w'
        go_simp
        with_reducible rfl
      rotate_left
      · simp only [Act.put, List.setIfInBounds_toArray, List.set_cons_zero, List.set_cons_succ, i64_w, i32_w]
        rfl
      refine last_ (i := 12) (N := none) #[true, true, true, true, true, true, true, true, true, true, true, true, true] rfl rfl (by kernel_rfl) (by decide) (fun K hK => ?_)
      have HLn := Lib.hid (Kd.R_below HLd.out (below_alloc (Below.refl wd.heap.size wd) (.cells #[.int .u8 q4] 5)))
      obtain ⟨qa, qb⟩ := R_cell HLn.out ix ix0 hixL
      refine skip_ (w1 := ?_) (by rfl) rfl ?_ ?_
      rotate_left
      · go_simp
        rfl
      refine hK.out _ _ ?_
      clear hK K
      refine done_ (by kernel_rfl) ?_
      unfold Exit.inBlock
      go_wp2
      go_meet
      have hR := Kd.R_below (R_set1 HLd.out ix ix0 hixL (x ++ strOfNums [q4])) (below_alloc (Below.refl _ _) (.cells #[.int .u8 q4] 5))
      obtain ⟨A1, c1, e1, hl1, hC1⟩ := Kd.R_reads hR
      rw [List.length_set] at e1 hl1 hC1
      cases e1
      have hPb := Kd.R_below (Kd.R_far (Kd.R_below HPP.out HBd.out) (p := ⟨gL, ix.toNat, none⟩) (fun k hk e => by have h1_ := HLg.out; simp at e; omega) (.string (x ++ strOfNums [q4]))) (below_alloc (Below.refl _ _) (.cells #[.int .u8 q4] 5))
      obtain ⟨A2, c2, e2, hl2, hC2⟩ := Kd.R_reads hPb
      cases e2
      have hne : w.heap.size ≠ gL := by have := HLg8.out; omega
      refine ⟨m, i, pub, L.set ix.toNat (x ++ strOfNums [q4]), P, some ⟨gL, 0, none⟩, cL, AP, cP, rfl, rfl, rfl, by rw [List.length_set], rfl, by omega, by omega, ⟨by rw [List.length_set, HL18.out]; omega, fun t h => ?_⟩, ⟨by rw [List.length_set]; exact hl1, by rw [List.length_set]; exact hC1⟩, ⟨by have := HP1.out.1; omega, fun t h => by have := HP1.out.2 t h; omega⟩, ⟨hl2, hC2⟩, blk_alloc ((Below.heap_setCell _ ⟨gL, ix.toNat, none⟩ (.string (x ++ strOfNums [q4])) w.heap.size (by simp; omega)).trans (blk_below HQ.out HBd.out)) _, below_alloc ((HX.out.trans (HBd.out.mono HX.out.size)).setCell (p := ⟨gL, ix.toNat, none⟩) (by have := HLg8.out; simp; omega) _) _⟩
      rcases List.mem_or_eq_of_mem_set h with h | rfl
      · rw [HL8.out t h]; omega
      · rw [ByteArray.size_append, strOfNums_size, HX8.out]; simp
    · -- a link twice
      go_wp2_with ((with_reducible refine gate_builtin (b := .append) (xs := #[.tmp 100, .tmp 105]) rfl ?_); at_builtin; refine Kd.R_append Kd.string (w0 := wa) w8.heap.size rfl (.tmp 100) (.tmp 105) 42 9 (.string ⟨#[]⟩) 16 rfl Try.underlying42 info9 rfl (by decide) (by omega) (.slice (some ⟨gL, 0, none⟩) L.length cL) L x [.string x] (fun _ => True) (fun _ => False) rfl rfl ?aP (fun _ hk => hk.elim) ?aF ?aO ?aB ?aS ?aL ?_; (case aP => exact rfl); (case aF => exact (fun _ _ => trivial)); (case aO => exact Kd.R_mono HL.out (fun _ _ => trivial)); (case aB => exact Below.refl _ _); (case aS => omega); (case aL => rw [HL18.out]; omega); intro v9 w9' ho9 hb9 hg9 hat9; have HO9 := Lib.hid ho9; have HB9 := Lib.hid hb9; have HG9 := Lib.hid hg9; obtain ⟨A1, c1, rfl, hl1, hC1⟩ := Kd.R_reads ho9; clear ho9 hb9 hg9 hat9)
      go_meet
      have hPb := Kd.R_grown HPP.out HG9.out (fun k hk e => by have h1_ := HLg.out; simp [Value.ownBlock] at e; omega)
      obtain ⟨A2, c2, e2, hl2, hC2⟩ := Kd.R_reads hPb
      cases e2
      refine ⟨m, i, pub, L ++ [x], P, A1, c1, AP, cP, rfl, rfl, rfl, by rw [List.length_append]; rfl, rfl, by omega, by omega, ⟨by rw [List.length_append, HL18.out]; simp, fun t h => ?_⟩, ⟨hl1, hC1⟩, ⟨by have := HP1.out.1; omega, fun t h => by have := HP1.out.2 t h; omega⟩, ⟨hl2, hC2⟩, (HB9.out.block _ hw8).trans HQ.out, HX.out.trans (HB9.out.mono (by omega))⟩
      rcases List.mem_append.1 h with h | h
      · rw [HL8.out t h]; omega
      · rw [List.mem_singleton.1 h]; omega
    · -- another number
      have tm4 : Int.tmod q4 7 = q4 % 7 := Int.tmod_eq_emod_of_nonneg b4.1
      obtain ⟨y4, hy4⟩ : ∃ y, y = q4 % 7 := ⟨_, rfl⟩
      rw [← hy4] at tm4
      have y40 : 0 ≤ y4 := by omega
      have y41 : y4 < 7 := by omega
      have t4 : wrap64 q4 = q4 := w64 (by omega) (by omega)
      clear hy4
      go_wp2
      go_meet
      exact ⟨m, _, pub, L, P, _, _, _, _, rfl, rfl, rfl, rfl, rfl, by omega, by omega, ⟨by rw [HL18.out]; omega, fun t h => by rw [HL8.out t h]; omega⟩, ⟨hlL, Kd.C_below HCL.out (Below.refl wa.heap.size wa)⟩, ⟨by have := HP1.out.1; omega, fun t h => by have := HP1.out.2 t h; omega⟩, ⟨hlP, Kd.C_below HCP.out (Below.refl wa.heap.size wa)⟩, (blk_below HQ.out (Below.refl wa.heap.size wa)), HX.out.trans ((Below.refl wa.heap.size wa).mono HX.out.size)⟩
    · -- a proof with an element more
      go_wp2_with ((with_reducible refine gate_builtin (b := .append) (xs := #[.tmp 116, .tmp 121]) rfl ?_); at_builtin; refine Kd.R_append Kd.string (w0 := wa) w9.heap.size rfl (.tmp 116) (.tmp 121) 42 9 (.string ⟨#[]⟩) 16 rfl Try.underlying42 info9 rfl (by decide) (by omega) (.slice AP P.length cP) P x [.string x] (fun k => w9.heap.size ≤ k) (fun _ => False) rfl rfl ?aP (fun _ hk => hk.elim) ?aF ?aO ?aB ?aS ?aL ?_; (case aP => exact rfl); (case aF => exact (fun k hk => Nat.le_trans h9a hk)); (case aO => exact HPP.out); (case aB => exact Below.refl _ _); (case aS => exact h9a); (case aL => have := HP1.out.1; omega); intro v9 w9' ho9 hb9 hg9 hat9; have HO9 := Lib.hid ho9; have HB9 := Lib.hid hb9; have HG9 := Lib.hid hg9; obtain ⟨A2, c2, rfl, hl2, hC2⟩ := Kd.R_reads ho9; clear ho9 hb9 hg9 hat9)
      go_meet
      have hLb := Kd.R_grown HL.out HG9.out (fun k hk e => by have h1_ := HPP.out.1 k e.symm; omega)
      obtain ⟨A1, c1, e1, hl1, hC1⟩ := Kd.R_reads hLb
      cases e1
      refine ⟨m, i, pub, L, P ++ [x], some ⟨gL, 0, none⟩, cL, A2, c2, rfl, rfl, rfl, rfl, by rw [List.length_append]; rfl, by omega, by omega, ⟨by rw [HL18.out]; omega, fun t h => by rw [HL8.out t h]; omega⟩, ⟨hl1, hC1⟩, ⟨by rw [List.length_append]; have := HP1.out.1; simp; omega, fun t h => ?_⟩, ⟨hl2, hC2⟩, (HB9.out.block _ hw9).trans HQ.out, HX.out.trans (HB9.out.mono (by omega))⟩
      rcases List.mem_append.1 h with h | h
      · have := HP1.out.2 t h; omega
      · rw [List.mem_singleton.1 h]; omega
    · -- another public string
      have q2 : wa.drew.cell? ⟨w.heap.size, 4, none⟩ = some (.int .u8 q4) := c4
      have hlt2 := World.block_lt_of_cell? _ _ q2
      have HBd := Lib.hid (show Below wa.heap.size wa wa.drew from below_drew (Below.refl _ _))
      have hp8 := HP8.out
      obtain ⟨J, hJ⟩ : ∃ J : Int, J = (pub.size : Int) - 1 := ⟨_, rfl⟩
      have eJ : IntKind.i64.wrap ((pub.size : Int) - 1) = J := by rw [hJ, IntKind.wrap_i64]; omega
      have j0 : (0 ≤ J) = True := eq_true (by omega)
      have j1 : (J ≤ (pub.size : Int)) = True := eq_true (by omega)
      have zz : ((pub.extract 0 J.toNat).size + (strOfNums [q4]).size ≤ 9223372036854775807) = True := eq_true (by rw [strOfNums_size, ByteArray.size_extract]; simp; omega)
      have zq : (9223372036854775807 < J.toNat + (strOfNums [q4]).size) = False := eq_false (by rw [strOfNums_size]; simp; omega)
      clear hJ hp8
      go_wp2
      refine start_ (n := 11) (S := fun w' => w'.cell? ⟨w.heap.size, 4, none⟩ = some (.int .u8 q4)) (ds := []) #[false, false, false, false, false, false, false, false, false, false, false] (by kernel_rfl) rfl rfl (q2) (fun hHeld => ?_)
      generalize wa.drew = wd at HBd q2 hlt2 hHeld ⊢
      refine pure_ (i := 0) (N := some 125) (v := ?_) (a' := ?_) #[true, false, false, false, false, false, false, false, false, false, false] rfl rfl (by kernel_rfl) (fun _ _ _ h => h) (Or.inl ⟨by rfl, ?_⟩) ?_ ?_
      rotate_left
      · intro w'
        go_simp
        with_reducible rfl
      rotate_left
      · simp only [Act.put, List.setIfInBounds_toArray, List.set_cons_zero, List.set_cons_succ, i64_w, i32_w]
        rfl
      refine pure_ (i := 1) (N := some 126) (v := ?_) (a' := ?_) #[true, true, false, false, false, false, false, false, false, false, false] rfl rfl (by kernel_rfl) (fun _ _ _ h => h) (Or.inl ⟨by rfl, ?_⟩) ?_ ?_
      rotate_left
      · intro w'
        go_simp
        with_reducible rfl
      rotate_left
      · simp only [Act.put, List.setIfInBounds_toArray, List.set_cons_zero, List.set_cons_succ, i64_w, i32_w]
        rfl
      refine pure_ (i := 2) (N := some 127) (v := ?_) (a' := ?_) #[true, true, true, false, false, false, false, false, false, false, false] rfl rfl (by kernel_rfl) (fun _ _ _ h => h) (Or.inl ⟨by rfl, ?_⟩) ?_ ?_
      rotate_left
      · intro w'
        go_simp
        with_reducible rfl
      rotate_left
      · simp only [Act.put, List.setIfInBounds_toArray, List.set_cons_zero, List.set_cons_succ, i64_w, i32_w]
        rfl
      refine pure_ (i := 3) (N := some 128) (v := ?_) (a' := ?_) #[true, true, true, true, false, false, false, false, false, false, false] rfl rfl (by kernel_rfl) (fun _ _ _ h => h) (Or.inl ⟨by rfl, ?_⟩) ?_ ?_
      rotate_left
      · intro w'
        go_simp
        with_reducible rfl
      rotate_left
      · simp only [Act.put, List.setIfInBounds_toArray, List.set_cons_zero, List.set_cons_succ, i64_w, i32_w]
        rfl
      refine pure_ (i := 4) (N := some 129) (v := ?_) (a' := ?_) #[true, true, true, true, true, false, false, false, false, false, false] rfl rfl (by kernel_rfl) (fun _ _ _ h => h) (Or.inl ⟨by rfl, ?_⟩) ?_ ?_
      rotate_left
      · intro w'
        go_simp
        with_reducible rfl
      rotate_left
      · simp only [Act.put, List.setIfInBounds_toArray, List.set_cons_zero, List.set_cons_succ, i64_w, i32_w]
        rfl
      refine pure_ (i := 5) (N := some 130) (v := ?_) (a' := ?_) #[true, true, true, true, true, true, false, false, false, false, false] rfl rfl (by kernel_rfl) (fun _ _ _ h => h) (Or.inl ⟨by rfl, ?_⟩) ?_ ?_
      rotate_left
      · intro w'
        go_simp
        with_reducible rfl
      rotate_left
      · simp only [Act.put, List.setIfInBounds_toArray, List.set_cons_zero, List.set_cons_succ, i64_w, i32_w]
        rfl
      refine take_ (i := 6) (N := some 131) (v := ?_) (a' := ?_) #[true, true, true, true, true, true, true, false, false, false, false] rfl rfl (by kernel_rfl) (fun _ _ _ h => h) (Or.inl ⟨by rfl, ?_⟩) hHeld ?_ ?_
      rotate_left
      · intro w' s0
        go_simp
        with_reducible rfl
      rotate_left
      · simp only [Act.put, List.setIfInBounds_toArray, List.set_cons_zero, List.set_cons_succ, i64_w, i32_w]
        rfl
      refine one_ (i := 7) (N := some 132) #[true, true, true, true, true, true, true, true, false, false, false] rfl rfl (by kernel_rfl) (by decide) (fun K hK => ?_)
      refine value_ (w1 := ?_) (v := ?_) (by rfl) rfl ?_ ?_
      rotate_left 2
      · go_simp
        constructor
        · rfl
        · rfl
      refine hK.out _ _ ((World.cell?_alloc_lt _ _ _ hlt2).trans q2) (fun hHeld => ?_)
      clear hK K
      refine norm_ (a' := ?_) ?_ ?_
      rotate_left
      · show Act.put _ (some 132) _ = _
        simp only [Act.put, List.setIfInBounds_toArray, List.set_cons_zero, List.set_cons_succ, i64_w, i32_w]
        rfl
      refine one_ (i := 8) (N := some 133) #[true, true, true, true, true, true, true, true, true, false, false] rfl rfl (by kernel_rfl) (by decide) (fun K hK => ?_)
      have hcv := conv1 (wd.alloc (.cells #[.int .u8 q4] 5)) wd.heap.size q4 (blk_new _ _)
      refine value_ (w1 := ?_) (v := ?_) (by rfl) rfl ?_ ?_
      rotate_left 2
      · go_simp
        constructor
        · rfl
        · rfl
      refine hK.out _ _ ((World.cell?_alloc_lt _ _ _ hlt2).trans q2) (fun hHeld => ?_)
      clear hK K
      refine norm_ (a' := ?_) ?_ ?_
      rotate_left
      · show Act.put _ (some 133) _ = _
        simp only [Act.put, List.setIfInBounds_toArray, List.set_cons_zero, List.set_cons_succ, i64_w, i32_w]
        rfl
      refine pure_ (i := 9) (N := some 134) (v := ?_) (a' := ?_) #[true, true, true, true, true, true, true, true, true, true, false] rfl rfl (by kernel_rfl) (fun _ _ _ h => h) (Or.inl ⟨by rfl, ?_⟩) ?_ ?_
      rotate_left
      · intro w'
        go_simp
        with_reducible rfl
      rotate_left
      · simp only [Act.put, List.setIfInBounds_toArray, List.set_cons_zero, List.set_cons_succ, i64_w, i32_w]
        rfl
      refine pure_ (i := 10) (N := some 10) (v := ?_) (a' := ?_) #[true, true, true, true, true, true, true, true, true, true, true] rfl rfl (by kernel_rfl) (fun _ _ _ h => h) (Or.inl ⟨by rfl, ?_⟩) ?_ ?_
      rotate_left
      · intro w'
        go_simp
        with_reducible rfl
      rotate_left
      · simp only [Act.put, List.setIfInBounds_toArray, List.set_cons_zero, List.set_cons_succ, i64_w, i32_w]
        rfl
      refine done_ (by kernel_rfl) ?_
      unfold Exit.inBlock
      go_wp2
      go_meet
      have HBn := Lib.hid (HBd.out.trans ((below_alloc (Below.refl wd.heap.size wd) (.cells #[.int .u8 q4] 5)).mono HBd.out.size))
      exact ⟨m, i, _, L, P, _, _, _, _, rfl, rfl, rfl, rfl, rfl, by omega, by omega, ⟨by rw [HL18.out]; omega, fun t h => by rw [HL8.out t h]; omega⟩, ⟨hlL, Kd.C_below HCL.out HBn.out⟩, ⟨by have := HP1.out.1; omega, fun t h => by have := HP1.out.2 t h; omega⟩, ⟨hlP, Kd.C_below HCP.out HBn.out⟩, blk_below HQ.out HBn.out, HX.out.trans (HBn.out.mono HX.out.size)⟩
    · -- a proof with an element less
      by_cases hP0 : P.length = 0
      · have hx0 : decide ((0 : Int) < (P.length : Int)) = false := decide_eq_false (by omega)
        have hx1 : decide (0 < P.length) = false := decide_eq_false (by omega)
        go_wp2
        go_meet
        exact ⟨m, i, pub, L, P, _, _, _, _, rfl, rfl, rfl, rfl, rfl, by omega, by omega, ⟨by rw [HL18.out]; omega, fun t h => by rw [HL8.out t h]; omega⟩, ⟨hlL, Kd.C_below HCL.out (Below.refl wa.heap.size wa)⟩, ⟨by have := HP1.out.1; omega, fun t h => by have := HP1.out.2 t h; omega⟩, ⟨hlP, Kd.C_below HCP.out (Below.refl wa.heap.size wa)⟩, (blk_below HQ.out (Below.refl wa.heap.size wa)), HX.out.trans ((Below.refl wa.heap.size wa).mono HX.out.size)⟩
      · have hx0 : decide ((0 : Int) < (P.length : Int)) = true := decide_eq_true (by omega)
        have hx1 : decide (0 < P.length) = true := decide_eq_true (by omega)
        obtain ⟨J, hJ⟩ : ∃ J : Int, J = (P.length : Int) - 1 := ⟨_, rfl⟩
        have hPle : P.length ≤ 5 := HP1.out.1
        have eJ : wrap64 ((P.length : Int) - 1) = J := by rw [hJ]; exact w64 (by omega) (by omega)
        obtain ⟨i0_, hi0_, _, hsz0_, _⟩ := info_parts info9
        obtain ⟨hcut_, _, hCc_⟩ := print_take_of (P := Try.prog) Value.string ByteArray.empty 42 9 .i64 Try.underlying42 hi0_ hsz0_ AP cP P J (by omega) (by omega) hlP
        have HCt := Lib.hid (Kd.C_take HCP.out (m := J.toNat) (by omega))
        have hPt : ∀ t ∈ P.take J.toNat, t.size ≤ 9 := fun t ht => by have := HP1.out.2 t (List.mem_of_mem_take ht); omega
        have hPl : (P.take J.toNat).length ≤ 6 := by rw [List.length_take]; omega
        have HPt := Lib.hid hPt
        have eJ2 : (P.length : Int) - 1 = J := hJ.symm
        generalize P.take J.toNat = Pt at *
        clear hi0_ hJ
        go_wp2
        go_meet
        exact ⟨m, i, pub, L, Pt, _, _, _, _, rfl, rfl, rfl, rfl, rfl, by omega, by omega, ⟨by rw [HL18.out]; omega, fun t h => by rw [HL8.out t h]; omega⟩, ⟨hlL, HCL.out⟩, ⟨hPl, HPt.out⟩, ⟨hCc_, HCt.out⟩, HQ.out, HX.out⟩
  case rest =>
    obtain ⟨m', i', pub', L', P', A1, c1, A2, c2, rfl, rfl, rfl, rfl, rfl, hm', hi', ⟨hL1, hL2⟩, ⟨hl1, hC1⟩, ⟨hP1, hP2⟩, ⟨hl2, hC2⟩, hq, hb⟩ := hcut
    have zL : (TextsB L').size ≤ 10 + L'.length * 19 := Nat.le_trans (join_size TextB 19 L' _ (fun x hx => by have := hL2 x hx; have := TextB_size x (by omega); omega)) (by have := IntB_small (L'.length : Int) (by omega) (by omega); omega)
    have zP : (TextsB P').size ≤ 10 + P'.length * 19 := Nat.le_trans (join_size TextB 19 P' _ (fun x hx => by have := hP2 x hx; have := TextB_size x (by omega); omega)) (by have := IntB_small (P'.length : Int) (by omega) (by omega); omega)
    have zI := IntB_small i' hi'.1 hi'.2
    obtain ⟨kt, hkt⟩ := (Parts_ev i' hi'.1 hi'.2 L' P' (by omega) (by omega) (fun s h => Nat.le_trans (hL2 s h) (by omega)) (fun s h => Nat.le_trans (hP2 s h) (by omega))).rounds
    obtain ⟨T, hT⟩ : ∃ T, T = (IntB i' ++ TextsB L') ++ TextsB P' := ⟨_, rfl⟩
    have zT : T.size ≤ 1000 := by rw [hT, ByteArray.size_append, ByteArray.size_append]; omega
    rw [← hT] at hkt
    have HKT := Lib.hid hkt
    have HC1 := Lib.hid hC1
    have HC2 := Lib.hid hC2
    have HQc := Lib.hid hq
    have HXc := Lib.hid hb
    obtain ⟨a, ha⟩ : ∃ a : Nat, (q3 * 7) % (sig.size : Int) = (a : Int) := ⟨((q3 * 7) % (sig.size : Int)).toNat, by have := Int.emod_nonneg (q3 * 7) (b := (sig.size : Int)) (by omega); omega⟩
    have ha1 : a < sig.size := by have := Int.emod_lt_of_pos (q3 * 7) (b := (sig.size : Int)) (by omega); omega
    have t7 : wrap64 (q3 * 7) = q3 * 7 := w64 (by omega) (by omega)
    have tma : Int.tmod (q3 * 7) (sig.size : Int) = (a : Int) := by rw [Int.tmod_eq_emod_of_nonneg (by omega)]; exact ha
    have t3 : wrap64 q3 = q3 := w64 (by omega) (by omega)
    have dz : ((sig.size : Int) == 0) = false := beq_eq_false_iff_ne.2 (by omega)
    have dz2 : ¬ sig.size = 0 := by omega
    clear hkt hC1 hC2 hq hb hT zL zP zI ha hL2 hP2
    go_wp2_with ((go_at_call 32); (with_reducible refine (abugidaref04_Parts.calls kt i' A1 c1 L' A2 c2 P' T _ HC1.out hl1 HC2.out hl2 HKT.out).mono ?_); rintro e wd ⟨rfl, hbx⟩; have HQd := Lib.hid (blk_below HQc.out hbx); have HXd := Lib.hid (HXc.out.trans (hbx.mono HXc.out.size)); have c3 : wd.cell? ⟨w.heap.size, 3, none⟩ = some (.int .u8 q3) := ck HQd.out _ _ rfl; clear hbx)
    have q4c : wd.drew.cell? ⟨w.heap.size, 4, none⟩ = some (.int .u8 q4) := ck (w := wd.drew) HQd.out _ _ rfl
    have hlt4 := World.block_lt_of_cell? _ _ q4c
    have HXe := Lib.hid (below_drew1 HXd.out)
    have ea : IntKind.i64.wrap ((a : Int) + 1) = (a : Int) + 1 := by rw [IntKind.wrap_i64]; omega
    have u0 : (0 ≤ (a : Int)) = True := eq_true (by omega)
    have u1_ : ((a : Int) ≤ (sig.size : Int)) = True := eq_true (by omega)
    have u2 : (0 ≤ (a : Int) + 1) = True := eq_true (by omega)
    have u3 : ((a : Int) + 1 ≤ (sig.size : Int)) = True := eq_true (by omega)
    have u4 : (a ≤ sig.size) = True := eq_true (by omega)
    have u5 : ((a : Int) + 1).toNat = a + 1 := by omega
    have u6 : (a + 1 ≤ sig.size) = True := eq_true (by omega)
    have y1 : (9223372036854775807 < a + (strOfNums [q4]).size) = False := eq_false (by rw [strOfNums_size]; simp; omega)
    have y2 : (9223372036854775807 < a + (strOfNums [q4]).size + (sig.size - (a + 1))) = False := eq_false (by rw [strOfNums_size]; simp; omega)
    have y3 : (9223372036854775807 < sig.size + sig.size) = False := eq_false (by omega)
    clear c3 t7 tma t3 dz dz2
    refine start_ (n := 24) (S := fun w' => w'.cell? ⟨w.heap.size, 4, none⟩ = some (.int .u8 q4)) (ds := []) #[false, false, false, false, false, false, false, false, false, false, false, false, false, false, false, false, false, false, false, false, false, false, false, false] (by kernel_rfl) rfl rfl (q4c) (fun hHeld => ?_)
    generalize wd.drew = we at HXe q4c hlt4 hHeld ⊢
    refine pure_ (i := 0) (N := some 156) (v := ?_) (a' := ?_) #[true, false, false, false, false, false, false, false, false, false, false, false, false, false, false, false, false, false, false, false, false, false, false, false] rfl rfl (by kernel_rfl) (fun _ _ _ h => h) (Or.inl ⟨by rfl, ?_⟩) ?_ ?_
    rotate_left
    · intro w'
      go_simp
      with_reducible rfl
    rotate_left
    · simp only [Act.put, List.setIfInBounds_toArray, List.set_cons_zero, List.set_cons_succ, i64_w, i32_w]
      rfl
    refine pure_ (i := 1) (N := some 157) (v := ?_) (a' := ?_) #[true, true, false, false, false, false, false, false, false, false, false, false, false, false, false, false, false, false, false, false, false, false, false, false] rfl rfl (by kernel_rfl) (fun _ _ _ h => h) (Or.inl ⟨by rfl, ?_⟩) ?_ ?_
    rotate_left
    · intro w'
      go_simp
      with_reducible rfl
    rotate_left
    · simp only [Act.put, List.setIfInBounds_toArray, List.set_cons_zero, List.set_cons_succ, i64_w, i32_w]
      rfl
    refine pure_ (i := 2) (N := some 158) (v := ?_) (a' := ?_) #[true, true, true, false, false, false, false, false, false, false, false, false, false, false, false, false, false, false, false, false, false, false, false, false] rfl rfl (by kernel_rfl) (fun _ _ _ h => h) (Or.inl ⟨by rfl, ?_⟩) ?_ ?_
    rotate_left
    · intro w'
      go_simp
      with_reducible rfl
    rotate_left
    · simp only [Act.put, List.setIfInBounds_toArray, List.set_cons_zero, List.set_cons_succ, i64_w, i32_w]
      rfl
    refine pure_ (i := 3) (N := some 159) (v := ?_) (a' := ?_) #[true, true, true, true, false, false, false, false, false, false, false, false, false, false, false, false, false, false, false, false, false, false, false, false] rfl rfl (by kernel_rfl) (fun _ _ _ h => h) (Or.inl ⟨by rfl, ?_⟩) ?_ ?_
    rotate_left
    · intro w'
      go_simp
      with_reducible rfl
    rotate_left
    · simp only [Act.put, List.setIfInBounds_toArray, List.set_cons_zero, List.set_cons_succ, i64_w, i32_w]
      rfl
    refine pure_ (i := 4) (N := some 160) (v := ?_) (a' := ?_) #[true, true, true, true, true, false, false, false, false, false, false, false, false, false, false, false, false, false, false, false, false, false, false, false] rfl rfl (by kernel_rfl) (fun _ _ _ h => h) (Or.inl ⟨by rfl, ?_⟩) ?_ ?_
    rotate_left
    · intro w'
      go_simp
      with_reducible rfl
    rotate_left
    · simp only [Act.put, List.setIfInBounds_toArray, List.set_cons_zero, List.set_cons_succ, i64_w, i32_w]
      rfl
    refine pure_ (i := 5) (N := some 161) (v := ?_) (a' := ?_) #[true, true, true, true, true, true, false, false, false, false, false, false, false, false, false, false, false, false, false, false, false, false, false, false] rfl rfl (by kernel_rfl) (fun _ _ _ h => h) (Or.inl ⟨by rfl, ?_⟩) ?_ ?_
    rotate_left
    · intro w'
      go_simp
      with_reducible rfl
    rotate_left
    · simp only [Act.put, List.setIfInBounds_toArray, List.set_cons_zero, List.set_cons_succ, i64_w, i32_w]
      rfl
    refine pure_ (i := 10) (N := some 166) (v := ?_) (a' := ?_) #[true, true, true, true, true, true, false, false, false, false, true, false, false, false, false, false, false, false, false, false, false, false, false, false] rfl rfl (by kernel_rfl) (fun _ _ _ h => h) (Or.inl ⟨by rfl, ?_⟩) ?_ ?_
    rotate_left
    · intro w'
      go_simp
      with_reducible rfl
    rotate_left
    · simp only [Act.put, List.setIfInBounds_toArray, List.set_cons_zero, List.set_cons_succ, i64_w, i32_w]
      rfl
    refine pure_ (i := 11) (N := some 167) (v := ?_) (a' := ?_) #[true, true, true, true, true, true, false, false, false, false, true, true, false, false, false, false, false, false, false, false, false, false, false, false] rfl rfl (by kernel_rfl) (fun _ _ _ h => h) (Or.inl ⟨by rfl, ?_⟩) ?_ ?_
    rotate_left
    · intro w'
      go_simp
      with_reducible rfl
    rotate_left
    · simp only [Act.put, List.setIfInBounds_toArray, List.set_cons_zero, List.set_cons_succ, i64_w, i32_w]
      rfl
    refine pure_ (i := 12) (N := some 168) (v := ?_) (a' := ?_) #[true, true, true, true, true, true, false, false, false, false, true, true, true, false, false, false, false, false, false, false, false, false, false, false] rfl rfl (by kernel_rfl) (fun _ _ _ h => h) (Or.inl ⟨by rfl, ?_⟩) ?_ ?_
    rotate_left
    · intro w'
      go_simp
      with_reducible rfl
    rotate_left
    · simp only [Act.put, List.setIfInBounds_toArray, List.set_cons_zero, List.set_cons_succ, i64_w, i32_w]
      rfl
    refine pure_ (i := 13) (N := some 169) (v := ?_) (a' := ?_) #[true, true, true, true, true, true, false, false, false, false, true, true, true, true, false, false, false, false, false, false, false, false, false, false] rfl rfl (by kernel_rfl) (fun _ _ _ h => h) (Or.inl ⟨by rfl, ?_⟩) ?_ ?_
    rotate_left
    · intro w'
      go_simp
      with_reducible rfl
    rotate_left
    · simp only [Act.put, List.setIfInBounds_toArray, List.set_cons_zero, List.set_cons_succ, i64_w, i32_w]
      rfl
    refine pure_ (i := 15) (N := some 171) (v := ?_) (a' := ?_) #[true, true, true, true, true, true, false, false, false, false, true, true, true, true, false, true, false, false, false, false, false, false, false, false] rfl rfl (by kernel_rfl) (fun _ _ _ h => h) (Or.inl ⟨by rfl, ?_⟩) ?_ ?_
    rotate_left
    · intro w'
      go_simp
      with_reducible rfl
    rotate_left
    · simp only [Act.put, List.setIfInBounds_toArray, List.set_cons_zero, List.set_cons_succ, i64_w, i32_w]
      rfl
    refine pure_ (i := 16) (N := some 172) (v := ?_) (a' := ?_) #[true, true, true, true, true, true, false, false, false, false, true, true, true, true, false, true, true, false, false, false, false, false, false, false] rfl rfl (by kernel_rfl) (fun _ _ _ h => h) (Or.inl ⟨by rfl, ?_⟩) ?_ ?_
    rotate_left
    · intro w'
      go_simp
      with_reducible rfl
    rotate_left
    · simp only [Act.put, List.setIfInBounds_toArray, List.set_cons_zero, List.set_cons_succ, i64_w, i32_w]
      rfl
    refine pure_ (i := 17) (N := some 173) (v := ?_) (a' := ?_) #[true, true, true, true, true, true, false, false, false, false, true, true, true, true, false, true, true, true, false, false, false, false, false, false] rfl rfl (by kernel_rfl) (fun _ _ _ h => h) (Or.inl ⟨by rfl, ?_⟩) ?_ ?_
    rotate_left
    · intro w'
      go_simp
      with_reducible rfl
    rotate_left
    · simp only [Act.put, List.setIfInBounds_toArray, List.set_cons_zero, List.set_cons_succ, i64_w, i32_w]
      rfl
    refine pure_ (i := 18) (N := some 174) (v := ?_) (a' := ?_) #[true, true, true, true, true, true, false, false, false, false, true, true, true, true, false, true, true, true, true, false, false, false, false, false] rfl rfl (by kernel_rfl) (fun _ _ _ h => h) (Or.inl ⟨by rfl, ?_⟩) ?_ ?_
    rotate_left
    · intro w'
      go_simp
      with_reducible rfl
    rotate_left
    · simp only [Act.put, List.setIfInBounds_toArray, List.set_cons_zero, List.set_cons_succ, i64_w, i32_w]
      rfl
    refine pure_ (i := 19) (N := some 175) (v := ?_) (a' := ?_) #[true, true, true, true, true, true, false, false, false, false, true, true, true, true, false, true, true, true, true, true, false, false, false, false] rfl rfl (by kernel_rfl) (fun _ _ _ h => h) (Or.inl ⟨by rfl, ?_⟩) ?_ ?_
    rotate_left
    · intro w'
      go_simp
      with_reducible rfl
    rotate_left
    · simp only [Act.put, List.setIfInBounds_toArray, List.set_cons_zero, List.set_cons_succ, i64_w, i32_w]
      rfl
    refine pure_ (i := 20) (N := some 176) (v := ?_) (a' := ?_) #[true, true, true, true, true, true, false, false, false, false, true, true, true, true, false, true, true, true, true, true, true, false, false, false] rfl rfl (by kernel_rfl) (fun _ _ _ h => h) (Or.inl ⟨by rfl, ?_⟩) ?_ ?_
    rotate_left
    · intro w'
      go_simp
      with_reducible rfl
    rotate_left
    · simp only [Act.put, List.setIfInBounds_toArray, List.set_cons_zero, List.set_cons_succ, i64_w, i32_w]
      rfl
    refine pure_ (i := 23) (N := some 179) (v := ?_) (a' := ?_) #[true, true, true, true, true, true, false, false, false, false, true, true, true, true, false, true, true, true, true, true, true, false, false, true] rfl rfl (by kernel_rfl) (fun _ _ _ h => h) (Or.inl ⟨by rfl, ?_⟩) ?_ ?_
    rotate_left
    · intro w'
      go_simp
      with_reducible rfl
    rotate_left
    · simp only [Act.put, List.setIfInBounds_toArray, List.set_cons_zero, List.set_cons_succ, i64_w, i32_w]
      rfl
    refine take_ (i := 6) (N := some 162) (v := ?_) (a' := ?_) #[true, true, true, true, true, true, true, false, false, false, true, true, true, true, false, true, true, true, true, true, true, false, false, true] rfl rfl (by kernel_rfl) (fun _ _ _ h => h) (Or.inl ⟨by rfl, ?_⟩) hHeld ?_ ?_
    rotate_left
    · intro w' s0
      go_simp
      with_reducible rfl
    rotate_left
    · simp only [Act.put, List.setIfInBounds_toArray, List.set_cons_zero, List.set_cons_succ, i64_w, i32_w]
      rfl
    refine one_ (i := 7) (N := some 163) #[true, true, true, true, true, true, true, true, false, false, true, true, true, true, false, true, true, true, true, true, true, false, false, true] rfl rfl (by kernel_rfl) (by decide) (fun K hK => ?_)
    refine value_ (w1 := ?_) (v := ?_) (by rfl) rfl ?_ ?_
    rotate_left 2
    · go_simp
      constructor
      · rfl
      · rfl
    refine hK.out _ _ ((World.cell?_alloc_lt _ _ _ hlt4).trans q4c) (fun hHeld => ?_)
    clear hK K
    refine norm_ (a' := ?_) ?_ ?_
    rotate_left
    · show Act.put _ (some 163) _ = _
      simp only [Act.put, List.setIfInBounds_toArray, List.set_cons_zero, List.set_cons_succ, i64_w, i32_w]
      rfl
    refine one_ (i := 8) (N := some 164) #[true, true, true, true, true, true, true, true, true, false, true, true, true, true, false, true, true, true, true, true, true, false, false, true] rfl rfl (by kernel_rfl) (by decide) (fun K hK => ?_)
    have hcv := conv1 (we.alloc (.cells #[.int .u8 q4] 5)) we.heap.size q4 (blk_new _ _)
    refine value_ (w1 := ?_) (v := ?_) (by rfl) rfl ?_ ?_
    rotate_left 2
    · go_simp
      constructor
      · rfl
      · rfl
    refine hK.out _ _ ((World.cell?_alloc_lt _ _ _ hlt4).trans q4c) (fun hHeld => ?_)
    clear hK K
    refine norm_ (a' := ?_) ?_ ?_
    rotate_left
    · show Act.put _ (some 164) _ = _
      simp only [Act.put, List.setIfInBounds_toArray, List.set_cons_zero, List.set_cons_succ, i64_w, i32_w]
      rfl
    refine pure_ (i := 9) (N := some 165) (v := ?_) (a' := ?_) #[true, true, true, true, true, true, true, true, true, true, true, true, true, true, false, true, true, true, true, true, true, false, false, true] rfl rfl (by kernel_rfl) (fun _ _ _ h => h) (Or.inl ⟨by rfl, ?_⟩) ?_ ?_
    rotate_left
    · intro w'
      go_simp
      with_reducible rfl
    rotate_left
    · simp only [Act.put, List.setIfInBounds_toArray, List.set_cons_zero, List.set_cons_succ, i64_w, i32_w]
      rfl
    refine pure_ (i := 14) (N := some 170) (v := ?_) (a' := ?_) #[true, true, true, true, true, true, true, true, true, true, true, true, true, true, true, true, true, true, true, true, true, false, false, true] rfl rfl (by kernel_rfl) (fun _ _ _ h => h) (Or.inl ⟨by rfl, ?_⟩) ?_ ?_
    rotate_left
    · intro w'
      go_simp
      with_reducible rfl
    rotate_left
    · simp only [Act.put, List.setIfInBounds_toArray, List.set_cons_zero, List.set_cons_succ, i64_w, i32_w]
      rfl
    refine one_ (i := 21) (N := some 177) #[true, true, true, true, true, true, true, true, true, true, true, true, true, true, true, true, true, true, true, true, true, true, false, true] rfl rfl (by kernel_rfl) (by decide) (fun K hK => ?_)
    refine value_ (w1 := ?_) (v := ?_) (by rfl) rfl ?_ ?_
    rotate_left 2
    · go_simp
      constructor
      · rfl
      · rfl
    refine hK.out _ _ ((World.cell?_alloc_lt _ _ _ (World.block_lt_of_cell? _ _ ((World.cell?_alloc_lt _ _ _ hlt4).trans q4c))).trans ((World.cell?_alloc_lt _ _ _ hlt4).trans q4c)) (fun hHeld => ?_)
    clear hK K
    refine norm_ (a' := ?_) ?_ ?_
    rotate_left
    · show Act.put _ (some 177) _ = _
      simp only [Act.put, List.setIfInBounds_toArray, List.set_cons_zero, List.set_cons_succ, i64_w, i32_w]
      rfl
    refine pure_ (i := 22) (N := some 178) (v := ?_) (a' := ?_) #[true, true, true, true, true, true, true, true, true, true, true, true, true, true, true, true, true, true, true, true, true, true, true, true] rfl rfl (by kernel_rfl) (fun _ _ _ h => h) (Or.inl ⟨by rfl, ?_⟩) ?_ ?_
    rotate_left
    · intro w'
      go_simp
      with_reducible rfl
    rotate_left
    · simp only [Act.put, List.setIfInBounds_toArray, List.set_cons_zero, List.set_cons_succ, i64_w, i32_w]
      rfl
    refine done_ (by kernel_rfl) ?_
    have hw := heap_alloc_new (we.alloc (.cells #[.int .u8 q4] 5)) (.cells #[.string sig, .string T, .string (sig.extract 0 a ++ strOfNums [q4] ++ sig.extract (a + 1) sig.size), .string (sig ++ sig), .string (sig.extract 0 a)] 9)
    have HBA := Lib.hid (below_alloc (below_alloc HXe.out (.cells #[.int .u8 q4] 5)) (.cells #[.string sig, .string T, .string (sig.extract 0 a ++ strOfNums [q4] ++ sig.extract (a + 1) sig.size), .string (sig ++ sig), .string (sig.extract 0 a)] 9))
    have hstrs : ∀ j : Nat, j < 5 → ∃ y : ByteArray, ((we.alloc (.cells #[.int .u8 q4] 5)).alloc (.cells #[.string sig, .string T, .string (sig.extract 0 a ++ strOfNums [q4] ++ sig.extract (a + 1) sig.size), .string (sig ++ sig), .string (sig.extract 0 a)] 9)).cell? ⟨(we.alloc (.cells #[.int .u8 q4] 5)).heap.size, j, none⟩ = some (.string y) ∧ y.size ≤ 1000 := by
      intro j hj
      obtain rfl | rfl | rfl | rfl | rfl : j = 0 ∨ j = 1 ∨ j = 2 ∨ j = 3 ∨ j = 4 := by omega
      · exact ⟨_, ck hw _ _ rfl, z2⟩
      · exact ⟨_, ck hw _ _ rfl, zT⟩
      · exact ⟨_, ck hw _ _ rfl, by simp only [ByteArray.size_append, ByteArray.size_extract, strOfNums_size]; simp; omega⟩
      · exact ⟨_, ck hw _ _ rfl, by rw [ByteArray.size_append]; have := HZ5.out; omega⟩
      · exact ⟨_, ck hw _ _ rfl, by simp only [ByteArray.size_extract]; omega⟩
    have HSTRS := Lib.hid hstrs
    clear hw hstrs hHeld q4c hlt4
    have eg : (we.alloc (.cells #[.int .u8 q4] 5)).heap.size = we.heap.size + 1 := by simp
    rw [eg] at HSTRS
    generalize ((we.alloc (.cells #[.int .u8 q4] 5)).alloc (.cells #[.string sig, .string T, .string (sig.extract 0 a ++ strOfNums [q4] ++ sig.extract (a + 1) sig.size), .string (sig ++ sig), .string (sig.extract 0 a)] 9)) = wf at *
    generalize we.heap.size + 1 = gg at *
    clear ea u0 u1_ u2 u3 u4 u5 u6 y1 y2 y3 eg
    go_wp2
    go_loopw [21, 179] (fun _ kv wr => ∃ k : Nat, k ≤ 5 ∧ kv = .int .i64 k ∧ Below wf.heap.size wf wr) (fun _ kv _ => 5 - (intOf kv).toNat)
    case atStart => exact ⟨0, by omega, rfl, Below.refl _ _⟩
    case round =>
      obtain ⟨k, hk, rfl, hB⟩ := hrel
      by_cases hlt : k < 5
      · obtain ⟨y, hy, hyz⟩ := HSTRS.out k hlt
        have p0 : wr.cell? ⟨gg, k, none⟩ = some (.string y) := (hB.cell (World.block_lt_of_cell? _ _ hy)).trans hy
        have r1 : (0 ≤ (k : Int)) = True := eq_true (by omega)
        have r2 : ((k : Int) < 5) = True := eq_true (by omega)
        have r3 : decide ((k : Int) < 5) = true := decide_eq_true (by omega)
        obtain ⟨r, hp, hr⟩ := Check_pair pub' m' y hyz hm'
        have PP := Lib.hid hp
        have PR := Lib.hid hr
        have HB := Lib.hid hB
        clear hy hB hp hr
        go_wp2_with (first
          | ((go_at_call 18); (with_reducible refine (PP.out _).mono ?_); rintro e w5 ⟨rfl, hb5⟩; have HB5 := Lib.hid (HB.out.trans (hb5.mono HB.out.size)); clear hb5)
          | ((go_at_call 33); (with_reducible refine (PR.out _).mono ?_); rintro e w6 ⟨rfl, hb6⟩; have HB6 := Lib.hid (HB5.out.trans (hb6.mono HB5.out.size)); clear hb6))
        go_roundw
        case rel => exact ⟨k + 1, by omega, by go_num, HB6.out⟩
        case measure => simp [intOf]; omega
      · obtain rfl : k = 5 := by omega
        have r3 : decide (((5 : Nat) : Int) < 5) = false := by decide
        go_wp2
        go_ret
        exact ⟨rfl, HBA.out.trans (hB.mono HBA.out.size)⟩
theorem signChecks_calls (w : World) (a0 : ByteArray) (z0 : a0.size ≤ 9223372036854775807) (a1 : ByteArray) (z1 : a1.size ≤ 9223372036854775807) (q0 : Int) (wq0 : (Lit.int .u8 q0).wf = true) (q1 : Int) (wq1 : (Lit.int .u8 q1).wf = true)
    (q2 : Int) (wq2 : (Lit.int .u8 q2).wf = true) (q3 : Int) (wq3 : (Lit.int .u8 q3).wf = true) (q4 : Int) (wq4 : (Lit.int .u8 q4).wf = true) :
    Calls Try.prog 7 #[.string a0, .string a1, .agg #[.int .u8 q0, .int .u8 q1, .int .u8 q2, .int .u8 q3, .int .u8 q4]] w fun e w' => e = .returned (.bool true) ∧ Below w.heap.size w w' :=
  checks_walk w a0 a1 q0 q1 q2 q3 q4 (u8_of wq0) (u8_of wq1) (u8_of wq2) (u8_of wq3) (u8_of wq4)
end Go.Proofs.Ytoolionhheiihaa.Sg
