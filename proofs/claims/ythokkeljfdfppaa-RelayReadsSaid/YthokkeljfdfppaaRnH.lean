/- RelayReads. -/
import Derived.Test.YthokkeljfdfppaaMgK
set_option linter.unusedVariables false
set_option linter.unusedSimpArgs false
namespace Go.Proofs.Ythokkeljfdfppaa.Rl
open Go.RowKit Go.Proofs.YthokkeljfdfppaaW.PrintWords Go.Proofs.YthokkeljfdfppaaW.PrintLast Go.Proofs.YthokkeljfdfppaaW.PrintMore Go.Proofs.Ythokkeljfdfppaa.Pb Go.Proofs.Ythokkeljfdfppaa.Gw Go.Proofs.Ythokkeljfdfppaa.Pure
attribute [local go_sem] max2_int min2_int max_two min_two
def cutS (s : ByteArray) : ByteArray := s.extract 0 (min s.size 100)
theorem cutS_size (s : ByteArray) : (cutS s).size ≤ 100 := by unfold cutS; rw [ByteArray.size_extract]; omega
theorem same_selfK (l : List S52) (A0 : Option Addr) (c0 : Nat) (A1 : Option Addr) (c1 : Nat) (w : World) (hC : Kd.C k52 w A0 l.length l) (hD : Kd.C k52 w A1 l.length l) (hl : l.length ≤ 9000) :
 Calls Try.prog 19 #[.slice A0 l.length c0, .slice A1 l.length c1] w fun e w' => e = .returned (.bool true) ∧ Below w.heap.size w w' := by
 have := SameKeys_c l l A0 c0 A1 c1 w hC (fun hn => plain52 hC hn) hD (fun hn => plain52 hD hn) hl
 rw [(eqKs_iff l l).2 rfl] at this
 exact this
theorem inf2s {cs : Array Value} (h : cs.size = 2) : (Try.prog.info? 22).map (·.size) = some cs.size := by rw [h]; kernel_rfl
theorem one2s {a b : ByteArray} : (#[Value.string a, .string b] : Array Value).all (·.oneCell') = true := by simp [Value.oneCell']
theorem inf4s {cs : Array Value} (h : cs.size = 4) : (Try.prog.info? 56).map (·.size) = some cs.size := by rw [h]; kernel_rfl
theorem one4s {a b c d : ByteArray} : (#[Value.string a, .string b, .string c, .string d] : Array Value).all (·.oneCell') = true := by simp [Value.oneCell']
theorem rangeAt_part {w : World} {g o : Nat} {cs : List Value} (h : w.rangeAt g o cs) (a : Nat) (ds : List Value) (hd : ∀ i u, ds[i]? = some u → cs[a + i]? = some u) : w.rangeAt g (o + a) ds := fun i u hu => by
 have := h (a + i) u (hd i u hu)
 rw [← Nat.add_assoc] at this
 exact this
theorem read_wraps (n0 n1 sz N1 : Nat) (h0 : n0 ≤ 65535) (h1 : n1 ≤ 65535) (h2 : sz ≤ 4000) (h3 : N1 = sz + 1) : IntKind.i64.wrap (n0 : Int) = (n0 : Int) ∧ IntKind.i64.wrap (n1 : Int) = (n1 : Int) ∧ IntKind.i64.wrap ((sz : Int) + 1) = (N1 : Int) ∧ wrap64 ((sz : Int) + 1) = (N1 : Int) := by
 refine ⟨?_, ?_, ?_, ?_⟩
 · rw [IntKind.wrap_i64]; omega
 · rw [IntKind.wrap_i64]; omega
 · rw [IntKind.wrap_i64]; omega
 · unfold wrap64; omega
set_option maxHeartbeats 32000000 in
set_option maxRecDepth 100000 in
theorem reads_walk (w : World) (A0 : Option Addr) (c0 : Nat) (l0 : List S52) (s : ByteArray) (hs : s.size ≤ 9223372036854775807) (a0 a1 : Int) (h0 : 0 ≤ a0 ∧ a0 ≤ 65535) (h1 : 0 ≤ a1 ∧ a1 ≤ 65535) (hC0 : Kd.C k52 w A0 l0.length l0) :
 Calls Try.prog 6 #[.slice A0 l0.length c0, .string s, .agg #[.int .u16 a0, .int .u16 a1]] w fun e w' => e = .returned (.bool true) ∧ Below w.heap.size w w' := by
 obtain ⟨n0, rfl⟩ : ∃ n : Nat, a0 = (n : Int) := ⟨a0.toNat, by omega⟩
 obtain ⟨n1, rfl⟩ : ∃ n : Nat, a1 = (n : Int) := ⟨a1.toNat, by omega⟩
 have HNN := Lib.hid (show n0 ≤ 65535 ∧ n1 ≤ 65535 from by omega)
 have HC0 := Lib.hid hC0
 have HX0 := Lib.hid (blk_new w (.cells #[.int .u16 (n0 : Int), .int .u16 (n1 : Int)] 50 (0, 0)))
 have HB0 := Lib.hid (below_alloc (Below.refl w.heap.size w) (.cells #[.int .u16 (n0 : Int), .int .u16 (n1 : Int)] 50 (0, 0)))
 clear hC0 h0 h1
 go_enter Try.func6, Try.ntmps6
 go_upto_region 2 with (go_at_call 14; refine (sanity_c _).mono ?_; rintro e Ws ⟨rfl, hb⟩; have HXs := Lib.hid (blk_below HX0.out hb); have HBs := Lib.hid (HB0.out.trans (hb.mono HB0.out.size)); clear hb)
 obtain ⟨s1, hs1⟩ : ∃ x, x = cutS s := ⟨_, rfl⟩
 have HS1 := Lib.hid (show s1.size ≤ 100 from hs1 ▸ cutS_size s)
 go_cut [1] (fun v1 wx => v1 = .string s1 ∧ wx = Ws)
 case first =>
  by_cases c : 100 < (s.size : Int)
  · have h1 : (100 ≤ s.size) = True := eq_true (by omega)
    have h2 : ((100 : Int) ≤ (s.size : Int)) = True := eq_true (by omega)
    have HCT := Lib.hid (show s.extract 0 100 = s1 from by rw [hs1, cutS, show min s.size 100 = 100 by omega])
    clear hs1
    go_wp2
    go_meet
    exact ⟨by rw [HCT.out], rfl⟩
  · have HCT := Lib.hid (show s = s1 from by rw [hs1, cutS, show min s.size 100 = s.size by omega, Pure.ext_all])
    clear hs1
    go_wp2
    go_meet
    exact ⟨by rw [HCT.out], rfl⟩
 case rest =>
  obtain ⟨rfl, rfl⟩ := hcut
  clear hs1 hs
  go_upto_region 4 with (go_at_call 20; refine (patches_r l0 A0 c0 _ (Kd.C_below HC0.out HBs.out)).mono ?_; rintro e Wp ⟨P, B, d, rfl, hp, hb⟩; have HP := Lib.hid hp; have HXp := Lib.hid (blk_below HXs.out hb); have HBp := Lib.hid (HBs.out.trans (hb.mono HBs.out.size)); clear hp hb)
  have HFEW := Lib.hid HP.out.few
  have HMADE := Lib.hid HP.out.made
  clear HX0 HB0 HXs HBs
  go_wp2
  go_loopg [9, 10] (P.length + 1) (fun kq v9 v10 w' => ∃ j : Nat, v10 = .int .i64 (j : Int) ∧ j + kq = P.length + 1 ∧ j ≤ P.length ∧ Kd.R k52 52 w' Wp.heap.size (fun _ => True) v9 ((P.take j).map S55.f2) ∧ Below Wp.heap.size Wp w')
  case atStart => exact ⟨0, rfl, by omega, by omega, Kd.R_nil _ _ _ _ _, Below.refl _ _⟩
  case round =>
   obtain ⟨j, rfl, hj, hjl, hr, hb⟩ := hrel
   have HJ := Lib.hid (show j + gk = P.length + 1 ∧ j ≤ P.length from ⟨hj, hjl⟩)
   have HR := Lib.hid hr
   have HB := Lib.hid hb
   by_cases c0 : j < P.length
   · have d1 : decide ((j : Int) < (P.length : Int)) = true := decide_eq_true (by omega)
     obtain ⟨x, hx⟩ : ∃ x, P[j]? = some x := ⟨P[j], List.getElem?_eq_getElem c0⟩
     obtain ⟨ga, hga⟩ := HP.out.plain (by omega)
     subst hga
     obtain ⟨A, c, hrg, _, _⟩ := elem55C (HP.out.below HB.out).c hx
     have hsn : (P.take (j + 1)).map S55.f2 = (P.take j).map S55.f2 ++ [x.f2] := by rw [List.take_add_one, hx]; simp
     have HRG := Lib.hid (rangeAt_part hrg 2 (#[.int .i64 x.f2.f0, .int .i64 x.f2.f1, .int .i64 x.f2.f2] : Array Value).toList (fun i u hu => by
      match i, hu with
      | 0, hu => exact hu
      | 1, hu => exact hu
      | 2, hu => exact hu))
     have HSN := Lib.hid hsn
     have HJL := Lib.hid c0
     have i1 : ((0 : Int) ≤ (j : Int)) = True := eq_true (by omega)
     have i2 : ((j : Int) < (P.length : Int)) = True := eq_true (by omega)
     have e1 : wrap64 ((j : Int) + 1) = ((j + 1 : Nat) : Int) := by rw [rl64 (by have := HFEW.out; omega) (by have := HFEW.out; omega)]; omega
     clear hx hrg hsn hj hjl hr hb c0
     go_wp2_with (first
      | (refine wpList_load_mid rfl 52 (.tmp 48) rfl ga (j * 11 + 2) rfl (#[.int .i64 x.f2.f0, .int .i64 x.f2.f1, .int .i64 x.f2.f2] : Array Value).toList _ HRG.out Try.underlying52 rfl (inf3 rfl) ?_)
      | ((with_reducible refine gate_builtin (b := .append) (xs := #[.tmp 44, .tmp 50]) rfl ?_); at_builtin
         go_loud (refine Kd.R_append k52 (w0 := Wp) (W := wr) Wp.heap.size rfl (.tmp 44) (.tmp 50) 33 52 (.agg #[.int .i64 0, .int .i64 0, .int .i64 0]) 24 rfl und33 info52k rfl (show 0 < 3 by omega) (by omega) u9 ((P.take j).map S55.f2) x.f2 [.int .i64 x.f2.f0, .int .i64 x.f2.f1, .int .i64 x.f2.f2] (fun _ => True) (fun _ => False) rfl ?aX (k52_mkM _ _ _ x.f2) (fun _ hk => hk.elim) (fun _ _ => trivial) HR.out HB.out HB.out.size ?aL ?_)
         go_loud (case aX => rfl)
         go_loud (case aL => rw [List.length_map, List.length_take]; have := HFEW.out; omega)
         intro v9 w9 ho9 hb9 hg9 hat9
         have HO9 := Lib.hid ho9
         have HB9 := Lib.hid hb9
         clear ho9 hb9 hg9 hat9))
     cases gk with
     | zero => exact absurd HJ.out (by omega)
     | succ kk =>
       go_roundg kk
       case measure => omega
       case rel => exact ⟨j + 1, by first | rw [e1] | rfl, by have := HJ.out; omega, by have := HJL.out; omega, by rw [HSN.out]; exact HO9.out, HB9.out⟩
   · have d1 : decide ((j : Int) < (P.length : Int)) = false := decide_eq_false (by omega)
     have hje : j = P.length := by omega
     subst hje
     rw [List.take_length] at hr
     obtain ⟨ks, hks⟩ : ∃ x, x = P.map S55.f2 := ⟨_, rfl⟩
     rw [← hks] at hr
     have hkl : ks.length ≤ 12 := by rw [hks, List.length_map]; exact HFEW.out
     have hko : ∀ k ∈ ks, KOk k := fun k hk => by
      rw [hks] at hk
      obtain ⟨p, hp, rfl⟩ := List.mem_map.1 hk
      exact (made_pk (HMADE.out p hp)).ok.f2
     have i2 : Pure.I64 2 := ⟨by decide, by decide⟩
     have z0 := ask_small ⟨#[102]⟩ 2 ks (by decide) i2 (by omega) hko
     have z1 := told_small P HFEW.out HMADE.out
     have E0 := refAsk_ev ⟨#[102]⟩ 2 ks (by decide) i2 (by omega) hko
     have E1 := refTold_ev P (by have := HFEW.out; omega) (fun p hp => (made_pk (HMADE.out p hp)).ok)
     obtain ⟨t0, ht0⟩ : ∃ x, x = AskB ⟨#[102]⟩ 2 ks := ⟨_, rfl⟩
     obtain ⟨t1, ht1⟩ : ∃ x, x = ToldB P := ⟨_, rfl⟩
     rw [← ht0] at z0 E0
     rw [← ht1] at z1 E1
     obtain ⟨k0, hk0⟩ := E0.rounds
     obtain ⟨k1, hk1⟩ := E1.rounds
     have H0 := Lib.hid hk0
     have H1 := Lib.hid hk1
     have HZ := Lib.hid (show t0.size ≤ 4000 ∧ t1.size ≤ 4000 from ⟨by omega, z1⟩)
     obtain ⟨A9, c9, rfl⟩ := Kd.R_slice hr
     have HK9 := Lib.hid (Kd.R_reads' hr).2
     have HPr := Lib.hid (HP.out.below HB.out)
     have HXr := Lib.hid (blk_below HXp.out HB.out)
     have HBr := Lib.hid (HBp.out.trans (HB.out.mono HBp.out.size))
     clear hks hkl hko i2 z0 z1 E0 E1 ht0 ht1 hk0 hk1 hr hb hj hjl c0 HR HB HP HXp
     go_upto_region 10 with (first
      | (go_at_call 18; refine (abugidaref35_Ask.calls k0 ⟨#[102]⟩ 2 A9 c9 ks t0 _ HK9.out.2 HK9.out.1 H0.out).mono ?_; rintro e W1 ⟨rfl, hb⟩; have HP1 := Lib.hid (HPr.out.below hb); have HX1 := Lib.hid (blk_below HXr.out hb); have HB1 := Lib.hid (HBr.out.trans (hb.mono HBr.out.size)); clear hb)
      | (go_at_call 23; refine (abugidaref35_Told.calls k1 B d P t1 _ HP1.out.c HP1.out.cap H1.out).mono ?_; rintro e W2 ⟨rfl, hb⟩; have HX2 := Lib.hid (blk_below HX1.out hb); have HB2 := Lib.hid (HB1.out.trans (hb.mono HB1.out.size)); clear hb)
      | (refine wpList_store_mid rfl 22 (.tmp 11) (.tmp 56) rfl _ 0 #[.string t0, .string t1] rfl rfl (there_blk (blk_new _ _) rfl) (inf2s rfl) one2s ?_))
     have hx3 : ((W2.alloc (.cells #[.string ⟨#[]⟩, .string ⟨#[]⟩] 22 (0, 0))).setCells W2.heap.size 0 (#[.string t0, .string t1] : Array Value).toList).heap[w.heap.size]? = some (.cells #[.int .u16 (n0 : Int), .int .u16 (n1 : Int)] 50 (0, 0)) := (setCells_other (Nat.ne_of_lt (blk_lt HX2.out)) _ _ _).trans (blk_alloc HX2.out _)
     have HX3 := Lib.hid hx3
     have HT3 := Lib.hid (setCells_full #[.string t0, .string t1] (blk_new W2 (.cells #[.string ⟨#[]⟩, .string ⟨#[]⟩] 22 (0, 0))) rfl)
     have HB3 := Lib.hid (below_cells HB2.out.size (#[.string t0, .string t1] : Array Value).toList 0 _ (below_alloc HB2.out (.cells #[.string ⟨#[]⟩, .string ⟨#[]⟩] 22 (0, 0))))
     obtain ⟨T, hT⟩ : ∃ x, x = W2.heap.size := ⟨_, rfl⟩
     rw [← hT] at HX3 HT3 HB3
     simp only [← hT]
     clear hx3 hT HX2 HB2 HX1 HB1 HP1 HPr HXr HBr
     generalize (W2.alloc (.cells #[.string ⟨#[]⟩, .string ⟨#[]⟩] 22 (0, 0))).setCells T 0 (#[.string t0, .string t1] : Array Value).toList = W3 at HX3 HT3 HB3 ⊢
     go_wp2
     go_loopg [12] 3 (fun kq v12 w' => ∃ i : Nat, v12 = .int .i64 (i : Int) ∧ i + kq = 3 ∧ i ≤ 2 ∧ Below W3.heap.size W3 w')
     case atStart => exact ⟨0, rfl, by omega, by omega, Below.refl _ _⟩
     case round =>
      obtain ⟨i, rfl, hi, hil, hb⟩ := hrel
      have HI := Lib.hid (show i + gk = 3 ∧ i ≤ 2 from ⟨hi, hil⟩)
      have HBi := Lib.hid hb
      cases gk with
      | zero => exact absurd HI.out (by omega)
      | succ kA =>
        by_cases c0 : i < 2
        · have d1 : decide ((i : Int) < 2) = true := decide_eq_true (by omega)
          have e1 : wrap64 ((i : Int) + 1) = ((i + 1 : Nat) : Int) := by rw [rl64 (by omega) (by omega)]; omega
          obtain ⟨tt, hct, htz⟩ : ∃ tt : ByteArray, wr.cell? ⟨T, i, none⟩ = some (.string tt) ∧ tt.size ≤ 4000 := by
           have hT := blk_below HT3.out HBi.out
           have : i = 0 ∨ i = 1 := by omega
           rcases this with rfl | rfl
           · exact ⟨t0, ck hT 0 _ rfl, HZ.out.1⟩
           · exact ⟨t1, ck hT 1 _ rfl, HZ.out.2⟩
          have hX := blk_below HX3.out HBi.out
          have x0 := ck hX 0 _ rfl
          have x1 := ck hX 1 _ rfl
          obtain ⟨N1, hN1⟩ : ∃ n, n = tt.size + 1 := ⟨_, rfl⟩
          obtain ⟨fr, hfr⟩ : ∃ n, n = n0 % N1 := ⟨_, rfl⟩
          obtain ⟨tp, htp⟩ : ∃ n, n = n1 % N1 := ⟨_, rfl⟩
          have hfl : fr ≤ tt.size := by have := Nat.mod_lt n0 (show 0 < N1 by omega); omega
          have htl : tp ≤ tt.size := by have := Nat.mod_lt n1 (show 0 < N1 by omega); omega
          have hnn := HNN.out
          have HWR := Lib.hid (read_wraps n0 n1 tt.size N1 hnn.1 hnn.2 htz hN1)
          have m4 : ((n0 : Int).tmod (N1 : Int)) = (fr : Int) := by rw [hfr]; rfl
          have m5 : ((n1 : Int).tmod (N1 : Int)) = (tp : Int) := by rw [htp]; rfl
          have m6 : ((N1 : Int) == 0) = false := beq_eq_false_iff_ne.mpr (by omega)
          have m6b : ((N1 : Int) != 0) = true := bne_iff_ne.mpr (by omega)
          have m7 : (N1 : Int) ≠ 0 := by omega
          have m8 : N1 ≠ 0 := by omega
          have HFT := Lib.hid (show fr ≤ tt.size ∧ tp ≤ tt.size ∧ tt.size ≤ 4000 from ⟨hfl, htl, htz⟩)
          have HE1 := Lib.hid e1
          have k1 : ((0 : Int) ≤ (i : Int)) = True := eq_true (by clear e1; omega)
          have k2 : ((i : Int) < 2) = True := eq_true (by clear e1; omega)
          have HI2 := Lib.hid c0
          clear e1 hX hN1 hfr htp hfl htl hnn htz hi hil hb
          obtain ⟨m0, m1, m2, m3⟩ := HWR.out
          go_upto_region 15 with fail
          clear m0 m2 m3
          go_cut [15] (fun v15 wx => ∃ tq : Nat, v15 = .int .i64 (tq : Int) ∧ fr ≤ tq ∧ tq ≤ tt.size ∧ wx = wr)
          case first =>
           obtain ⟨m0, m1, m2, m3⟩ := HWR.out
           by_cases hc : fr < tp
           · have hc2 : (fr : Int) < (tp : Int) := by clear m0 m1 m2 m3; omega
             have hc3 : decide ((fr : Int) < (tp : Int)) = true := decide_eq_true hc2
             go_wp2
             go_meet
             exact ⟨tp, rfl, Nat.le_of_lt hc, HFT.out.2.1, rfl⟩
           · have hc2 : ¬ (fr : Int) < (tp : Int) := by clear m0 m1 m2 m3; omega
             have hc3 : decide ((fr : Int) < (tp : Int)) = false := decide_eq_false hc2
             go_wp2
             go_meet
             exact ⟨fr, rfl, Nat.le_refl _, HFT.out.1, rfl⟩
          case rest =>
           obtain ⟨tq, rfl, hft, htt, rfl⟩ := hcut
           have HTO := Lib.hid (show fr ≤ tq ∧ tq ≤ tt.size from ⟨hft, htt⟩)
           clear m4 m5 m6 m6b m7 m8 x0 x1 hct hft htt
           have p1 : ((0 : Int) ≤ (fr : Int)) = True := eq_true (by omega)
           have p2 : ((fr : Int) ≤ (tt.size : Int)) = True := eq_true (by have := HFT.out; omega)
           have p3 : (fr ≤ tt.size) = True := eq_true (by have := HFT.out; omega)
           have p4 : ((0 : Int) ≤ (tq : Int)) = True := eq_true (by omega)
           have p5 : ((tq : Int) ≤ (tt.size : Int)) = True := eq_true (by have := HTO.out; omega)
           have p6 : (tq ≤ tt.size) = True := eq_true (by have := HTO.out; omega)
           have sz := HFT.out
           have s1z := HS1.out
           have a1 : (9223372036854775807 < min fr tt.size + s1.size) = False := eq_false (by omega)
           have a2 : (9223372036854775807 < fr + s1.size) = False := eq_false (by omega)
           have a3 : (9223372036854775807 < min fr tt.size + s1.size + (tt.size - tq)) = False := eq_false (by omega)
           have a4 : (9223372036854775807 < fr + s1.size + (tt.size - tq)) = False := eq_false (by omega)
           have a5 : (9223372036854775807 < tt.size + s1.size) = False := eq_false (by omega)
           have HU1 := Lib.hid (show (((tt.extract 0 fr) ++ s1) ++ tt.extract tq tt.size).size ≤ 9000 from by rw [ByteArray.size_append, ByteArray.size_append, ByteArray.size_extract, ByteArray.size_extract]; omega)
           have HU2 := Lib.hid (show (tt.extract 0 fr).size ≤ 9000 from by rw [ByteArray.size_extract]; omega)
           have HU3 := Lib.hid (show (tt ++ s1).size ≤ 9000 from by rw [ByteArray.size_append]; omega)
           have HU0 := Lib.hid (show s1.size ≤ 9000 from by omega)
           clear sz s1z
           have HBd := Lib.hid HBi.out.drew
           go_upto_region 16 with fail
           refine start_ (n := 19) (S := fun w' => True) (ds := [18]) #[false, false, false, false, false, false, false, false, false, false, false, false, false, false, false, false, false, false, false] (by kernel_rfl) rfl rfl trivial (fun hHeld => ?_)
           generalize wc.drew = wd at HBd hHeld ⊢
           refine pA 0 (some 80) rfl rfl (by intro w'; go_simp; with_reducible rfl) (by simp only [Act.put, nS]; rfl) ?_
           refine pA 1 (some 81) rfl rfl (by intro w'; go_simp; with_reducible rfl) (by simp only [Act.put, nS]; rfl) ?_
           refine pA 2 (some 82) rfl rfl (by intro w'; go_simp; with_reducible rfl) (by simp only [Act.put, nS]; rfl) ?_
           refine pA 3 (some 83) rfl rfl (by intro w'; go_simp; with_reducible rfl) (by simp only [Act.put, nS]; rfl) ?_
           refine pA 4 (some 84) rfl rfl (by intro w'; go_simp; with_reducible rfl) (by simp only [Act.put, nS]; rfl) ?_
           refine pA 5 (some 85) rfl rfl (by intro w'; go_simp; with_reducible rfl) (by simp only [Act.put, nS]; rfl) ?_
           refine pA 6 (some 86) rfl rfl (by intro w'; go_simp; with_reducible rfl) (by simp only [Act.put, nS]; rfl) ?_
           refine pA 7 (some 87) rfl rfl (by intro w'; go_simp; with_reducible rfl) (by simp only [Act.put, nS]; rfl) ?_
           refine pA 8 (some 88) rfl rfl (by intro w'; go_simp; with_reducible rfl) (by simp only [Act.put, nS]; rfl) ?_
           refine pA 9 (some 89) rfl rfl (by intro w'; go_simp; with_reducible rfl) (by simp only [Act.put, nS]; rfl) ?_
           refine pA 10 (some 90) rfl rfl (by intro w'; go_simp; with_reducible rfl) (by simp only [Act.put, nS]; rfl) ?_
           refine pA 11 (some 91) rfl rfl (by intro w'; go_simp; with_reducible rfl) (by simp only [Act.put, nS]; rfl) ?_
           refine pA 12 (some 92) rfl rfl (by intro w'; go_simp; with_reducible rfl) (by simp only [Act.put, nS]; rfl) ?_
           refine pA 13 (some 93) rfl rfl (by intro w'; go_simp; with_reducible rfl) (by simp only [Act.put, nS]; rfl) ?_
           refine pA 14 (some 94) rfl rfl (by intro w'; go_simp; with_reducible rfl) (by simp only [Act.put, nS]; rfl) ?_
           refine pA 15 (some 95) rfl rfl (by intro w'; go_simp; with_reducible rfl) (by simp only [Act.put, nS]; rfl) ?_
           refine pA 16 (some 96) rfl rfl (by intro w'; go_simp; with_reducible rfl) (by simp only [Act.put, nS]; rfl) ?_
           refine oA 17 (some 16) rfl rfl (fun K hK => ?_)
           refine value_ (w1 := ?_) (v := ?_) (by rfl) rfl ?_ ?_
           rotate_left 2
           · go_simp
             constructor
             · rfl
             · rfl
           refine hK.out _ _ trivial (fun hHeld => norm_ (by show Act.put _ (some 16) _ = _; simp only [Act.put, nS]; rfl) ?_)
           clear hK K
           refine last_ (i := 18) (N := none) #[true, true, true, true, true, true, true, true, true, true, true, true, true, true, true, true, true, true, true] rfl rfl (by kernel_rfl) (by decide) (fun K hK => ?_)
           refine store_ (by rfl) rfl 56 (.tmp 16) (.tmp 96) rfl wd.heap.size 0 #[.string s1, .string ((tt.extract 0 fr ++ s1) ++ tt.extract tq tt.size), .string (tt.extract 0 fr), .string (tt ++ s1)] rfl rfl (there_blk (blk_new wd _) rfl) (inf4s rfl) one4s ?_
           refine hK.out _ _ ?_
           clear hK K
           refine done_ (by kernel_rfl) ?_
           have HT6 := Lib.hid (setCells_full #[.string s1, .string ((tt.extract 0 fr ++ s1) ++ tt.extract tq tt.size), .string (tt.extract 0 fr), .string (tt ++ s1)] (blk_new wd (.cells #[.string ⟨#[]⟩, .string ⟨#[]⟩, .string ⟨#[]⟩, .string ⟨#[]⟩] 56 (0, 0))) rfl)
           have HB6 := Lib.hid (below_cells HBd.out.size (#[.string s1, .string ((tt.extract 0 fr ++ s1) ++ tt.extract tq tt.size), .string (tt.extract 0 fr), .string (tt ++ s1)] : Array Value).toList 0 _ (below_alloc HBd.out (.cells #[.string ⟨#[]⟩, .string ⟨#[]⟩, .string ⟨#[]⟩, .string ⟨#[]⟩] 56 (0, 0))))
           obtain ⟨U, hU⟩ : ∃ x, x = wd.heap.size := ⟨_, rfl⟩
           rw [← hU] at HT6 HB6
           simp only [← hU]
           generalize (wd.alloc (.cells #[.string ⟨#[]⟩, .string ⟨#[]⟩, .string ⟨#[]⟩, .string ⟨#[]⟩] 56 (0, 0))).setCells U 0 (#[.string s1, .string ((tt.extract 0 fr ++ s1) ++ tt.extract tq tt.size), .string (tt.extract 0 fr), .string (tt ++ s1)] : Array Value).toList = W6 at HT6 HB6 ⊢
           clear hU p1 p2 p3 p4 p5 p6 a1 a2 a3 a4 a5 k1 k2 c0 HBd
           go_wp2
           go_loopg [17] 5 (fun kq v17 w' => ∃ k : Nat, v17 = .int .i64 (k : Int) ∧ k + kq = 5 ∧ k ≤ 4 ∧ Below W6.heap.size W6 w')
           case atStart => exact ⟨0, rfl, by omega, by omega, Below.refl _ _⟩
           case round =>
            obtain ⟨k, rfl, hk, hkl, hb⟩ := hrel
            have HK := Lib.hid (show k + gk = 5 ∧ k ≤ 4 from ⟨hk, hkl⟩)
            have HBK := Lib.hid hb
            cases gk with
            | zero => exact absurd HK.out (by omega)
            | succ kB =>
              by_cases c1 : k < 4
              · obtain ⟨uu, huc, huz⟩ : ∃ uu : ByteArray, wr.cell? ⟨U, k, none⟩ = some (.string uu) ∧ uu.size ≤ 9000 := by
                 have hT := blk_below HT6.out HBK.out
                 have : k = 0 ∨ k = 1 ∨ k = 2 ∨ k = 3 := by omega
                 rcases this with rfl | rfl | rfl | rfl
                 · exact ⟨_, ck hT 0 _ rfl, HU0.out⟩
                 · exact ⟨_, ck hT 1 _ rfl, HU1.out⟩
                 · exact ⟨_, ck hT 2 _ rfl, HU2.out⟩
                 · exact ⟨_, ck hT 3 _ rfl, HU3.out⟩
                have HKL := Lib.hid c1
                have HWK := Lib.hid (show wrap64 ((k : Int) + 1) = ((k + 1 : Nat) : Int) from by rw [rl64 (by omega) (by omega)]; omega)
                have d2 : decide ((k : Int) < 4) = true := decide_eq_true (by omega)
                have l1 : ((0 : Int) ≤ (k : Int)) = True := eq_true (by omega)
                have l2 : ((k : Int) < 4) = True := eq_true (by omega)
                obtain ⟨⟨f, v, x, ok⟩, E1, E2, hl⟩ := Asked_same uu huz
                obtain ⟨⟨l, td⟩, E3, E4, hl2, hp2⟩ := Tell_same uu huz
                obtain ⟨ka, hka⟩ := E1.rounds
                obtain ⟨kb, hkb⟩ := E2.rounds
                obtain ⟨kc, hkc⟩ := E3.rounds
                obtain ⟨kd, hkd⟩ := E4.rounds
                have H1_ := Lib.hid hka
                have H2_ := Lib.hid hkb
                have H3_ := Lib.hid hkc
                have H4_ := Lib.hid hkd
                have HL1 := Lib.hid (show x.length ≤ 9000 from hl)
                have HL2 := Lib.hid (show l.length ≤ 9000 ∧ ∀ p ∈ l, p.f6.length ≤ 9000 from ⟨hl2, fun p hp => (hp2 p hp).f6⟩)
                have HC := Lib.hid huc
                clear E1 E2 E3 E4 hka hkb hkc hkd hl hl2 hp2 huz hk hkl hb
                go_upto_region 21 with (go_at_call 17; refine (relay_Asked.calls ka uu f v x ok _ H1_.out).mono ?_; rintro e w1 ⟨v1, rfl, hr, hb⟩; obtain ⟨A1, n1_, rfl⟩ := Kd.R_slice hr; have HR1 := Lib.hid (Kd.R_reads' hr).2.2; have HB1 := Lib.hid (HBK.out.trans (hb.mono HBK.out.size)); have hc1 := (hb.cell (World.block_lt_of_cell? _ _ HC.out)).trans HC.out; clear hr hb)
                have HC1 := Lib.hid hc1
                clear huc
                go_upto_region 22 with (go_at_call 25; refine (abugidaref35_Asked.calls kb uu f v x ok _ H2_.out).mono ?_; rintro e w2 ⟨v2, rfl, hr, hb⟩; obtain ⟨A2, n2_, rfl⟩ := Kd.R_slice hr; have HR2 := Lib.hid (Kd.R_reads' hr).2.2; have HR1b := Lib.hid (Kd.C_below HR1.out hb); have HB2 := Lib.hid (HB1.out.trans (hb.mono HB1.out.size)); have hc2 := (hb.cell (World.block_lt_of_cell? _ _ HC1.out)).trans HC1.out; clear hr hb)
                have HC2 := Lib.hid hc2
                clear hc1
                go_upto_region 23 with (go_at_call 22; refine (relay_Tell.calls kc uu l td _ H3_.out).mono ?_; rintro e w3 ⟨v3, rfl, hr, hb⟩; obtain ⟨A3, n3_, rfl⟩ := Kd.R_slice (Kd.S_R hr); have HR3 := Lib.hid (Kd.S_R hr); have HR1c := Lib.hid (Kd.C_below HR1b.out hb); have HR2c := Lib.hid (Kd.C_below HR2.out hb); have HB3_ := Lib.hid (HB2.out.trans (hb.mono HB2.out.size)); have hc3 := (hb.cell (World.block_lt_of_cell? _ _ HC2.out)).trans HC2.out; clear hr hb)
                clear hc2
                go_upto_region 24 with (go_at_call 26; refine (abugidaref35_Tell.calls kd uu l td _ H4_.out).mono ?_; rintro e w4 ⟨v4, rfl, hr, hb⟩; obtain ⟨A4, n4_, rfl⟩ := Kd.R_slice (Kd.S_R hr); have HR4 := Lib.hid (Kd.S_R hr); have HR1d := Lib.hid (Kd.C_below HR1c.out hb); have HR2d := Lib.hid (Kd.C_below HR2c.out hb); have HR3d := Lib.hid (Kd.R_below HR3.out hb); have HB4 := Lib.hid (HB3_.out.trans (hb.mono HB3_.out.size)); clear hr hb)
                clear hc3
                have y1 : (f.toList != f.toList) = false := bne_eq_false_iff_eq.2 rfl
                have y2 : (v != v) = false := bne_eq_false_iff_eq.2 rfl
                have y3 : (ok != ok) = false := bne_eq_false_iff_eq.2 rfl
                have y4 : (td != td) = false := bne_eq_false_iff_eq.2 rfl
                go_wp2_with (first
                 | (go_at_call 19; refine (same_selfK x A1 n1_ A2 n2_ _ HR1d.out HR2d.out HL1.out).mono ?_; rintro e w5 ⟨rfl, hb⟩; have HB5 := Lib.hid (HB4.out.trans (hb.mono HB4.out.size)); have HR3e := Lib.hid (Kd.R_below HR3d.out hb); have HR4e := Lib.hid (Kd.R_below HR4.out hb); clear hb)
                 | (go_at_call 24; refine (sameP_self l A3 n3_ A4 n4_ _ (Kd.R_reads' HR3e.out).2.2 (fun hn => R_some HR3e.out hn) (Kd.R_reads' HR4e.out).2.2 (fun hn => R_some HR4e.out hn) HL2.out.1 HL2.out.2).mono ?_; rintro e w6 ⟨rfl, hb⟩; have HB7 := Lib.hid (HB5.out.trans (hb.mono HB5.out.size)); clear hb))
                go_roundg kB
                case measure => omega
                case rel => exact ⟨k + 1, by first | rw [HWK.out] | rfl, by have := HK.out; omega, by have := HKL.out; omega, HB7.out⟩
              · have hk4 : k = 4 := by omega
                subst hk4
                have HBE := Lib.hid (HB6.out.trans (HBK.out.mono HB6.out.size))
                clear hk hkl hb c1
                go_wp2
                go_roundg kA
                case measure => omega
                case rel => exact ⟨i + 1, by first | rw [HE1.out] | rfl, by have := HI.out; omega, by have := HI2.out; omega, HBE.out⟩
        · have hi2 : i = 2 := by omega
          subst hi2
          clear hi hil hb c0
          go_wp2
          go_ret
          exact ⟨rfl, HB3.out.trans (HBi.out.mono HB3.out.size)⟩
end Go.Proofs.Ythokkeljfdfppaa.Rl
