/- Several texts of this claim, one behind the other: AwG, AwH, WSized. -/
import Derived.Test.YtoleencecfjcjaaMgH
import Derived.Test.YtoleencecfjcjaaMgI
import Derived.OpenShut
import Derived.SizedLaws
import Derived.ChangeSlices
/- AtlasPlays. -/
set_option linter.unusedVariables false
set_option linter.unusedSimpArgs false
namespace Go.Proofs.Ytoleencecfjcjaa.At
open Go.RowKit Go.Proofs.YtoleencecfjcjaaW.PrintWords Go.Proofs.YtoleencecfjcjaaW.PrintLast Go.Proofs.YtoleencecfjcjaaW.PrintMore Go.Proofs.Ytoleencecfjcjaa.Rng Go.Proofs.Ytoleencecfjcjaa.RowC
theorem callPlain {w : World} {A : Option Addr} {l : List CallP} (hC : Kd.C kCall w A l.length l) (hn : 0 < l.length) : ∃ gk ok, A = some ⟨gk, ok, none⟩ := by
  obtain ⟨_, _, h3⟩ := hC
  obtain ⟨ad, rfl, h4⟩ := h3 hn
  obtain ⟨x, hx⟩ : ∃ x, l[0]? = some x := ⟨l[0], List.getElem?_eq_getElem hn⟩
  obtain ⟨cs, h5, h6, h7⟩ := h4 0 x hx
  have h6 : cs = ccells x := h6
  subst h6
  have h8 := h7 0 _ rfl
  obtain ⟨gb, ob, sp⟩ := ad
  cases sp with
  | none => exact ⟨gb, ob, rfl⟩
  | some s =>
    exfalso
    simp [Addr.add, World.cell?] at h8
    split at h8 <;> simp_all
theorem callCells {w : World} {gk ok n : Nat} {l : List CallP} {j : Nat} {x : CallP} (hC : Kd.C kCall w (some ⟨gk, ok, none⟩) n l) (hx : l[j]? = some x) : w.rangeAt gk (ok + j * 5) [.int .i64 x.what, .int .i64 x.nm, .int .i64 x.q0, .int .i64 x.q1, .int .i64 x.q2] := by
  obtain ⟨h1, _, h3⟩ := hC
  have hj : j < l.length := (List.getElem?_eq_some_iff.1 hx).1
  obtain ⟨ad, e1, h4⟩ := h3 (by omega)
  cases e1
  obtain ⟨cs, h5, h6, h7⟩ := h4 j x hx
  have h6 : cs = ccells x := h6
  subst h6
  intro i u hu
  have := h7 i u hu
  rw [Addr.add_mid] at this
  show w.cell? ⟨gk, ok + j * 5 + i, none⟩ = some u
  rw [Nat.add_assoc]
  exact this
theorem inf33 {cs : Array Value} (h : cs.size = 5) : (Try.prog.info? 33).map (·.size) = some cs.size := by rw [h]; kernel_rfl
theorem fitL_gone (W H w h : Int) : ∀ L : List En, (fitL W H w h L).1.length ≤ L.length
  | [] => Nat.le_refl _
  | e :: L => by
    unfold fitL
    split
    · exact Nat.zero_le _
    · have := fitL_gone W H w h L
      simp only [List.length_cons]
      omega
theorem putP_gone (W H : Int) (L : List En) (nm : ByteArray) (b : Bm) : (putP W H L nm b).1.length ≤ L.length := by
  unfold putP
  split
  · exact Nat.zero_le _
  · split
    · split <;> exact Nat.zero_le _
    · unfold addP
      split
      · exact Nat.zero_le _
      · split
        · exact Nat.zero_le _
        · exact fitL_gone W H _ _ L
theorem getB_rows {W H : Nat} {L : List En} (h : Inv W H L) (nm : ByteArray) : (getB L nm).1.rows.length ≤ 1000 := by
  unfold getB getP
  split
  · rename_i e he
    have hm : e ∈ L := List.mem_of_find?_eq_some he
    obtain ⟨X1, Y1, W1, H1, hr, hbw, hbh, h1, h2, h3, h4, h5, h6, _⟩ := h.dims hm
    show e.b.rows.length ≤ 1000
    omega
  · exact Nat.zero_le _
set_option maxHeartbeats 32000000 in
set_option maxRecDepth 100000 in
theorem plays_walk (w : World) (a b : Nat) (ha : a ≤ 255) (hb : b ≤ 255) (A0 : Option Addr) (c0 : Nat) (l0 : List CallP) (hC0 : Kd.C kCall w A0 l0.length l0) :
    Calls Try.prog 3 #[.agg #[.int .u8 (a : Int), .int .u8 (b : Int)], .slice A0 l0.length c0] w fun e w' => e = .returned (.bool true) ∧ Below w.heap.size w w' := by
  have HPL := Lib.hid (show 0 < l0.length → ∃ gk ok, A0 = some ⟨gk, ok, none⟩ from fun hn => callPlain hC0 hn)
  have HC0 := Lib.hid hC0
  have HAB := Lib.hid (show a ≤ 255 ∧ b ≤ 255 from ⟨ha, hb⟩)
  have HB0 := Lib.hid (below_alloc (Below.refl w.heap.size w) (.cells #[.int .u8 (a : Int), .int .u8 (b : Int)] 22 (0, 0)))
  have HX0 := Lib.hid (blk_new w (.cells #[.int .u8 (a : Int), .int .u8 (b : Int)] 22 (0, 0)))
  clear hC0 ha hb
  obtain ⟨Wn, hWn⟩ : ∃ n, n = szP a := ⟨_, rfl⟩
  obtain ⟨Hn, hHn⟩ : ∃ n, n = szP b := ⟨_, rfl⟩
  have HWH := Lib.hid (show (1 ≤ Wn ∧ Wn ≤ 128) ∧ (1 ≤ Hn ∧ Hn ≤ 128) from by have h1 := szP_le a; have h2 := szP_le b; omega)
  have HSZ := Lib.hid (show ∀ w, Calls Try.prog 9 #[.agg #[.int .u8 (a : Int), .int .u8 (b : Int)]] w fun e w' => e = .returned (.tuple #[.int .i64 (Wn : Int), .int .i64 (Hn : Int)]) ∧ Below w.heap.size w w' from fun w => by rw [hWn, hHn]; exact sizes_c a b HAB.out.1 HAB.out.2 w)
  clear hWn hHn HAB
  go_enter Try.func3, Try.ntmps3
  go_upto_region 2 with (go_at_call 8; (with_reducible refine (sanity_c _).mono ?_); rintro e Ws ⟨rfl, hb⟩; have HBs := Lib.hid (HB0.out.trans (hb.mono HB0.out.size)); have HXs := Lib.hid (blk_below HX0.out hb); clear hb)
  have x0 := ckA HXs.out 0 _ rfl
  have x1 := ckA HXs.out 1 _ rfl
  clear HB0 HX0
  go_upto_region 3 with (go_at_call 9; (with_reducible refine (HSZ.out _).mono ?_); rintro e Wz ⟨rfl, hb⟩; have HBz := Lib.hid (HBs.out.trans (hb.mono HBs.out.size)); clear hb)
  clear x0 x1 HBs HXs HSZ
  go_upto_region 4 with (go_at_call 10; (with_reducible refine (San.new Wn Hn HWH.out.1 HWH.out.2).mono ?_); rintro e W3 ⟨g, Q1, rfl, hs⟩; have HS := Lib.hid hs; clear hs)
  go_upto_region 5 with (go_at_call 11; (with_reducible refine (refNew_c Wn Hn HWH.out.1 HWH.out.2 _).mono ?_); rintro e W4 ⟨g2, rfl, hg, hs, hb⟩; have HP := Lib.hid (show PS w W4 g g2 Wn Hn 0 [] [] Q1 (fun k => k = g2) from ⟨HS.out.at_.below hb, hs, fun k hk => Nat.le_trans HBz.out.size (HS.out.ge k hk), fun k hk => by subst hk; exact Nat.le_trans HBz.out.size (Nat.le_trans HS.out.b.size hg), fun k hk e => by have := HS.out.at_.lt hk; omega, HBz.out.trans ((HS.out.b.trans (hb.mono HS.out.b.size)).mono HBz.out.size)⟩); clear hg hs hb)
  clear HS HBz
  go_wp2
  go_loopg [10] 31 (fun kq v10 w' => ∃ (i : Nat) (L : List En) (Q1 Q2 : Nat → Prop), v10 = .int .i64 (i : Int) ∧ i + kq = 31 ∧ i ≤ l0.length ∧ i ≤ 30 ∧ PS w w' g g2 Wn Hn i L L Q1 Q2)
  case atStart => exact ⟨0, [], _, _, rfl, by omega, by omega, by omega, HP.out⟩
  case round =>
    clear HP
    obtain ⟨i, L, Q1, Q2, rfl, hi, hil, hi30, hs⟩ := hrel
    have HJ := Lib.hid (show i + gk = 31 ∧ i ≤ 30 from ⟨hi, hi30⟩)
    have HSR := Lib.hid hs
    cases gk with
    | zero => exact absurd HJ.out (by omega)
    | succ kA =>
      by_cases c0 : i < l0.length ∧ i < 30
      · have d1 : decide ((i : Int) < (l0.length : Int)) = true := decide_eq_true (by omega)
        have d2 : decide ((i : Int) < 30) = true := decide_eq_true (by omega)
        have HI := Lib.hid c0
        obtain ⟨gk_, ok_, hA⟩ := HPL.out (by omega)
        subst hA
        obtain ⟨x, hx⟩ : ∃ x, l0[i]? = some x := ⟨l0[i], List.getElem?_eq_getElem c0.1⟩
        have hrg := callCells (Kd.C_below HC0.out HSR.out.b) hx
        obtain ⟨what, nmi, q0, q1, q2⟩ := x
        simp only at hrg
        have HRG := Lib.hid hrg
        have i1 : ((0 : Int) ≤ (i : Int)) = True := eq_true (by omega)
        have i2 : ((i : Int) < (l0.length : Int)) = True := eq_true (by omega)
        have HE1 := Lib.hid (show wrap64 ((i : Int) + 1) = ((i + 1 : Nat) : Int) from by unfold wrap64; omega)
        clear hrg hx hi hil hi30 hs c0
        go_upto_region 11 with (refine wpList_load_mid rfl 33 (.tmp 52) rfl gk_ (ok_ + i * 5) rfl (#[.int .i64 what, .int .i64 nmi, .int .i64 q0, .int .i64 q1, .int .i64 q2] : Array Value).toList _ HRG.out Try.underlying33 rfl (inf33 rfl) ?_)
        have HPB := Lib.hid (blk_new wr (.cells #[.int .i64 what, .int .i64 nmi, .int .i64 q0, .int .i64 q1, .int .i64 q2] 33 (0, 0)))
        have HSn := Lib.hid (HSR.out.below (below_alloc (Below.refl _ _) (.cells #[.int .i64 what, .int .i64 nmi, .int .i64 q0, .int .i64 q1, .int .i64 q2] 33 (0, 0))))
        generalize wr.alloc (.cells #[.int .i64 what, .int .i64 nmi, .int .i64 q0, .int .i64 q1, .int .i64 q2] 33 (0, 0)) = w5 at HPB HSn ⊢
        obtain ⟨PB, hPB⟩ : ∃ n, n = wr.heap.size := ⟨_, rfl⟩
        rw [← hPB] at HPB
        simp only [← hPB]
        have HNB := Lib.hid (show (∀ k, Q1 k → k < PB) ∧ ∀ k, Q2 k → k < PB from ⟨fun k hk => hPB ▸ HSR.out.own.lt hk, fun k hk => hPB ▸ HSR.out.ref.lt hk⟩)
        clear hPB HSR HRG
        have c1 := ckA HPB.out 1 _ rfl
        go_upto_region 12 with (go_at_call 12; (with_reducible refine (name_c nmi _).mono ?_); rintro e w6 ⟨rfl, hb⟩; have HSm := Lib.hid (HSn.out.below hb); have HPm := Lib.hid (blk_below HPB.out hb); clear hb)
        clear c1 HSn HPB
        obtain ⟨nm, hnm⟩ : ∃ n, n = nmK (nmI nmi) := ⟨_, rfl⟩
        have HNM := Lib.hid (show nm.size = 1 from by rw [hnm]; exact nmK_size _)
        rw [← hnm]
        clear hnm
        have c0_ := ckA HPm.out 0 _ rfl
        have HINV := Lib.hid HSm.out.own.inv
        have HLEN := Lib.hid (show L.length ≤ 90000 from by have h1 := HSm.out.own.len; have h2 := HJ.out; omega)
        go_upto_block 2 with fail
        generalize (IntKind.u64.wrap what).tmod 7 = t7
        clear c0_
        go_cut [13] (fun v13 wx => v13 = .bool true ∧ ∃ L' Q1' Q2', PS w wx g g2 Wn Hn (i + 1) L' L' Q1' Q2')
        case first =>
          by_cases e4 : t7 = 4 ∨ t7 = 5
          · obtain ⟨gr, hgr⟩ : ∃ r, r = getB L nm := ⟨_, rfl⟩
            have HGR := Lib.hid hgr.symm
            have HGL := Lib.hid (show gr.1.rows.length ≤ 1000 from hgr ▸ getB_rows HINV.out nm)
            clear hgr
            obtain ⟨⟨r1, r2, r3, r4, rs⟩, ok⟩ := gr
            have ek : (ok == ok) = true := beq_self_eq_true ok
            rcases e4 with rfl | rfl <;> (
              go_upto_region 20 with (go_at_call 13; (with_reducible refine (HSm.out.get1 (by have := HJ.out; omega) nm (by rw [HNM.out]; decide)).mono ?_); rintro e wa ⟨va, rfl, hr, hp, hst⟩; rw [HGR.out] at hr ⊢; dsimp only [bmV] at hr ⊢; obtain ⟨Aa, ca, rfl⟩ := Kd.R_slice hr; have HRa := Lib.hid hr; have HSa := Lib.hid hp; clear hr hp hst)
              have HSa2 := Lib.hid (HSa.out.below (below_alloc (Below.refl _ _) (.cells #[.int .i64 r1, .int .i64 r2, .int .i64 r3, .int .i64 r4, .slice Aa rs.length ca] 38 (0, 0))))
              have HBa := Lib.hid (blk_new wa (.cells #[.int .i64 r1, .int .i64 r2, .int .i64 r3, .int .i64 r4, .slice Aa rs.length ca] 38 (0, 0)))
              have HRa2 := Lib.hid (R_below HRa.out (below_alloc (Below.refl _ _) (.cells #[.int .i64 r1, .int .i64 r2, .int .i64 r3, .int .i64 r4, .slice Aa rs.length ca] 38 (0, 0))))
              have HQa := Lib.hid (show (∀ k, Q2 k → k < w6.heap.size) ∧ ∀ k, Q2 k → k < wa.heap.size from ⟨fun k hk => HSm.out.ref.lt hk, fun k hk => HSa.out.ref.lt hk⟩)
              generalize wa.alloc (.cells #[.int .i64 r1, .int .i64 r2, .int .i64 r3, .int .i64 r4, .slice Aa rs.length ca] 38 (0, 0)) = wa2 at HSa2 HBa HRa2 ⊢
              generalize wa.heap.size = Ba at HBa HQa ⊢
              clear HSa HSm HPm HRa
              go_upto_region 21 with (go_at_call 14; (with_reducible refine (HSa2.out.get2 HINV.out HLEN.out nm).mono ?_); rintro e wb ⟨vb, Qb, rfl, hr, hp, hst⟩; rw [HGR.out] at hr ⊢; dsimp only [bmV] at hr ⊢; obtain ⟨Ab, cb, rfl⟩ := Kd.R_slice hr; have HRb := Lib.hid hr; have HSb := Lib.hid hp; have HBb := Lib.hid ((hst.1.2 Ba (lt_of_blk HBa.out) (fun hq => by have := HQa.out.2 _ hq; omega)).trans HBa.out); have HRa3 := Lib.hid (R_kept HRa2.out (fun k hk hlt _ => hst.1.2 k hlt (fun hq => by have := HQa.out.1 k hq; omega))); clear hr hp hst)
              have HSb2 := Lib.hid (HSb.out.below (below_alloc (Below.refl _ _) (.cells #[.int .i64 r1, .int .i64 r2, .int .i64 r3, .int .i64 r4, .slice Ab rs.length cb] 38 (0, 0))))
              have HBc := Lib.hid (blk_new wb (.cells #[.int .i64 r1, .int .i64 r2, .int .i64 r3, .int .i64 r4, .slice Ab rs.length cb] 38 (0, 0)))
              have HBd := Lib.hid (blk_below HBb.out (below_alloc (Below.refl _ _) (.cells #[.int .i64 r1, .int .i64 r2, .int .i64 r3, .int .i64 r4, .slice Ab rs.length cb] 38 (0, 0))))
              have HRb2 := Lib.hid (R_below HRb.out (below_alloc (Below.refl _ _) (.cells #[.int .i64 r1, .int .i64 r2, .int .i64 r3, .int .i64 r4, .slice Ab rs.length cb] 38 (0, 0))))
              have HRa4 := Lib.hid (R_below HRa3.out (below_alloc (Below.refl _ _) (.cells #[.int .i64 r1, .int .i64 r2, .int .i64 r3, .int .i64 r4, .slice Ab rs.length cb] 38 (0, 0))))
              generalize wb.alloc (.cells #[.int .i64 r1, .int .i64 r2, .int .i64 r3, .int .i64 r4, .slice Ab rs.length cb] 38 (0, 0)) = wb2 at HSb2 HBc HBd HRb2 HRa4 ⊢
              generalize wb.heap.size = Bb at HBc ⊢
              clear HSa2 HBa HSb HBb HRa2 HRa3 HRb
              have u0 := ckA HBd.out 0 _ rfl
              have v0 := ckA HBc.out 0 _ rfl
              have u1 := ckA HBd.out 1 _ rfl
              have v1 := ckA HBc.out 1 _ rfl
              have u2 := ckA HBd.out 2 _ rfl
              have v2 := ckA HBc.out 2 _ rfl
              have u3 := ckA HBd.out 3 _ rfl
              have v3 := ckA HBc.out 3 _ rfl
              have u4 := ckA HBd.out 4 _ rfl
              have v4 := ckA HBc.out 4 _ rfl
              go_wp2_with (first
                | (go_at_call 15; (refine (Same_k (b1 := ⟨r1, r2, r3, r4, rs⟩) (b2 := ⟨r1, r2, r3, r4, rs⟩) HRa4.out HRb2.out HGL.out HGL.out).mono ?_); rintro e wc ⟨rfl, hb⟩; have HSc := Lib.hid (HSb2.out.below hb); clear hb; rw [(sameB_iff _ _).2 rfl]))
              go_meet
              exact ⟨rfl, useP L nm, Q1, Qb, HSc.out⟩)
          · have n4 : (t7 == 4) = false := beq_eq_false_iff_ne.2 (fun e => e4 (.inl e))
            have n5 : (t7 == 5) = false := beq_eq_false_iff_ne.2 (fun e => e4 (.inr e))
            by_cases e6 : t7 = 6
            · have n6 : (t7 == 6) = true := beq_iff_eq.2 e6
              clear e4
              obtain ⟨rr, hrr⟩ : ∃ r, r = rectP L nm := ⟨_, rfl⟩
              have ec := fun w => eqRc rr.1 rr.1 w
              have et : rcEq rr.1 rr.1 = true := by simp [rcEq]
              rw [et] at ec
              have HRR := Lib.hid hrr.symm
              clear et hrr
              obtain ⟨⟨r1, r2, r3, r4⟩, ok⟩ := rr
              unfold rcV at ec
              dsimp only at ec
              have ek : (ok == ok) = true := beq_self_eq_true ok
              have HEC := Lib.hid ec
              clear ec e6
              go_upto_region 24 with (go_at_call 16; (with_reducible refine (HSm.out.rect1 nm (by rw [HNM.out]; decide)).mono ?_); rintro e wa ⟨rfl, hp, hb⟩; have HSa := Lib.hid hp; rw [HRR.out]; dsimp only [rcV]; clear hp hb)
              have HSa2 := Lib.hid (HSa.out.below (below_alloc (Below.refl _ _) (.cells #[.int .i64 r1, .int .i64 r2, .int .i64 r3, .int .i64 r4] 43 (0, 0))))
              have HBa := Lib.hid (blk_new wa (.cells #[.int .i64 r1, .int .i64 r2, .int .i64 r3, .int .i64 r4] 43 (0, 0)))
              generalize wa.alloc (.cells #[.int .i64 r1, .int .i64 r2, .int .i64 r3, .int .i64 r4] 43 (0, 0)) = wa2 at HSa2 HBa ⊢
              generalize wa.heap.size = Ba at HBa ⊢
              clear HSa HSm HPm
              go_upto_region 25 with (go_at_call 17; (with_reducible refine (HSa2.out.rect2 HLEN.out nm).mono ?_); rintro e wb ⟨rfl, hp, hb⟩; have HSb := Lib.hid hp; have HBb := Lib.hid (blk_below HBa.out hb); rw [HRR.out]; dsimp only [rcV]; clear hp hb)
              have HSb2 := Lib.hid (HSb.out.below (below_alloc (Below.refl _ _) (.cells #[.int .i64 r1, .int .i64 r2, .int .i64 r3, .int .i64 r4] 43 (0, 0))))
              have HBc := Lib.hid (blk_new wb (.cells #[.int .i64 r1, .int .i64 r2, .int .i64 r3, .int .i64 r4] 43 (0, 0)))
              have HBd := Lib.hid (blk_below HBb.out (below_alloc (Below.refl _ _) (.cells #[.int .i64 r1, .int .i64 r2, .int .i64 r3, .int .i64 r4] 43 (0, 0))))
              generalize wb.alloc (.cells #[.int .i64 r1, .int .i64 r2, .int .i64 r3, .int .i64 r4] 43 (0, 0)) = wb2 at HSb2 HBc HBd ⊢
              generalize wb.heap.size = Bb at HBc ⊢
              clear HSa2 HBa HSb HBb
              have u0 := ckA HBd.out 0 _ rfl
              have u1 := ckA HBd.out 1 _ rfl
              have u2 := ckA HBd.out 2 _ rfl
              have u3 := ckA HBd.out 3 _ rfl
              have v0 := ckA HBc.out 0 _ rfl
              have v1 := ckA HBc.out 1 _ rfl
              have v2 := ckA HBc.out 2 _ rfl
              have v3 := ckA HBc.out 3 _ rfl
              have ec := HEC.out
              go_wp2
              go_meet
              exact ⟨rfl, L, Q1, Q2, { HSb2.out with own := HSb2.out.own.more (Nat.le_succ _) }⟩
            · have n6 : (t7 == 6) = false := beq_eq_false_iff_ne.2 e6
              clear e4 e6
              have c2 := ckA HPm.out 2 _ rfl
              have c3 := ckA HPm.out 3 _ rfl
              have c4 := ckA HPm.out 4 _ rfl
              go_upto_region 15 with (first
                | (go_at_call 19; (with_reducible refine (Made_k q0 q1 q2 _).mono ?_); rintro e wa ⟨va, rfl, hr, hb⟩; have HRa := Lib.hid hr; have HSa := Lib.hid (HSm.out.below hb); have HPa := Lib.hid (blk_below HPm.out hb); clear hr hb)
                | (go_at_call 18; (with_reducible refine (HSa.out.put1 (by have := HJ.out; omega) nm (by rw [HNM.out]; decide) (madeB q0 q1 q2) (fun k hk => HSm.out.own.lt hk) HRa.out ⟨by have := (madeB_rows q0 q1 q2).1; omega, (madeB_rows q0 q1 q2).2⟩).mono ?_); rintro e wb ⟨Ab, cb, Qb, rfl, hr, hp, hst⟩; have HRb := Lib.hid hr; have HSb := Lib.hid hp; have HPb := Lib.hid ((hst.1.2 PB (lt_of_blk HPa.out) (fun hq => by have := HNB.out.1 _ hq; omega)).trans HPa.out); have HQb := Lib.hid (show ∀ k, Q2 k → k < wa.heap.size from fun k hk => HSa.out.ref.lt hk); clear hr hp hst))
              clear c2 c3 c4 HPm HSm HPa
              have c2 := ckA HPb.out 2 _ rfl
              have c3 := ckA HPb.out 3 _ rfl
              have c4 := ckA HPb.out 4 _ rfl
              go_upto_region 16 with (first
                | (go_at_call 19; (with_reducible refine (Made_k q0 q1 q2 _).mono ?_); rintro e wc ⟨vc, rfl, hr, hb⟩; have HRc := Lib.hid hr; have HSc := Lib.hid (HSb.out.below hb); have HRb1 := Lib.hid (R_below HRb.out hb); clear hr hb)
                | (go_at_call 20; (with_reducible refine (HSc.out.put2 HINV.out HWH.out.1 HWH.out.2.2 HLEN.out nm (madeB q0 q1 q2) (fun k hk => HSb.out.ref.lt hk) HRc.out ⟨by have := (madeB_rows q0 q1 q2).1; omega, (madeB_rows q0 q1 q2).2⟩).mono ?_); rintro e wd ⟨Ad, cd, Qd, rfl, hr, hp, hst⟩; have HRd := Lib.hid hr; have HSd := Lib.hid hp; have HRb2 := Lib.hid (R_kept HRb1.out (fun k hk hlt _ => hst.1.2 k hlt (fun hq => by have := HQb.out k hq; omega))); clear hr hp hst))
              clear c2 c3 c4 HPb
              have ee : ((putP (Wn : Int) (Hn : Int) L nm (madeB q0 q1 q2)).2.1 == (putP (Wn : Int) (Hn : Int) L nm (madeB q0 q1 q2)).2.1) = true := beq_self_eq_true _
              go_wp2_with (go_at_call 21; (with_reducible refine (SameRows_c HRb2.out HRd.out (by have h1 := putP_gone Wn Hn L nm (madeB q0 q1 q2); have h2 := HLEN.out; omega)).mono ?_); rintro e we ⟨rfl, hb⟩; have HSe := Lib.hid (HSd.out.below hb); clear hb; rw [decide_eq_true (rfl : (putP (Wn : Int) (Hn : Int) L nm (madeB q0 q1 q2)).1 = (putP (Wn : Int) (Hn : Int) L nm (madeB q0 q1 q2)).1)])
              go_meet
              exact ⟨rfl, _, _, _, HSe.out⟩
        case rest =>
          obtain ⟨rfl, L', Q1', Q2', hp⟩ := hcut
          have HSe := Lib.hid hp
          have HL2 := Lib.hid (show L'.length ≤ 90000 from by have h1 := hp.own.len; have h2 := HJ.out; omega)
          clear hp
          have HQB := Lib.hid (show True from trivial)
          go_wp2_with (first
            | (go_at_call 22; (with_reducible refine (HSe.out.names1 (by have := HJ.out; omega)).mono ?_); rintro e wA ⟨vA, rfl, hr, hp, hb⟩; have HRA := Lib.hid hr; have HSA := Lib.hid hp; clear hr hp hb)
            | (go_at_call 23; (with_reducible refine (HSA.out.names2 HL2.out).mono ?_); rintro e wB ⟨vB, rfl, hr, hp, hb⟩; have HRB := Lib.hid hr; have HSB := Lib.hid hp; have HRA2 := Lib.hid (R_below HRA.out hb); clear hr hp hb)
            | (go_at_call 21; (with_reducible refine (SameRows_c HRA2.out HRB.out (by have := HL2.out; rw [List.length_map]; omega)).mono ?_); rintro e wC ⟨rfl, hb⟩; have HSC := Lib.hid (HSB.out.below hb); clear hb; rw [decide_eq_true (rfl : L'.map En.nm = L'.map En.nm)]))
          go_roundg kA
          case measure => omega
          case rel => exact ⟨i + 1, L', Q1', Q2', by first | rw [HE1.out] | rfl, by have := HJ.out; omega, by have := HI.out; omega, by have := HI.out; omega, HSC.out⟩
      · by_cases c1 : i < l0.length
        · have d1 : decide ((i : Int) < (l0.length : Int)) = true := decide_eq_true (by omega)
          have d2 : decide ((i : Int) < 30) = false := decide_eq_false (by omega)
          have n1 : (i < l0.length) = True := eq_true c1
          have n2 : (i < 30) = False := eq_false (by omega)
          clear hi hil hi30 hs c0 c1
          go_wp2
          go_ret
          exact ⟨rfl, HSR.out.b⟩
        · have d1 : decide ((i : Int) < (l0.length : Int)) = false := decide_eq_false (by omega)
          have n1 : (i < l0.length) = False := eq_false c1
          clear hi hil hi30 hs c0
          go_wp2
          go_ret
          exact ⟨rfl, HSR.out.b⟩
end Go.Proofs.Ytoleencecfjcjaa.At

/- AtlasPlays, in the row's own form. -/
set_option linter.unusedVariables false
set_option linter.unusedSimpArgs false
namespace Go.Proofs.Ytoleencecfjcjaa.At
open Go.RowKit Go.Proofs.YtoleencecfjcjaaW.PrintWords Go.Proofs.YtoleencecfjcjaaW.PrintLast Go.Proofs.YtoleencecfjcjaaW.PrintMore Go.Proofs.Ytoleencecfjcjaa.RowC
theorem atlasPlays_calls (w : World) (a0 : Int) (wa0 : (Lit.int .u8 a0).wf = true) (a1 : Int) (wa1 : (Lit.int .u8 a1).wf = true) (A0 : Option Addr) (c0 : Nat) (l0 : List CallP) (hC0 : Kd.C kCall w A0 l0.length l0) (hc0 : l0.length ≤ c0) (hl0 : c0 ≤ 9223372036854775807) (hk0 : ∀ k ∈ l0, True) :
    Calls Try.prog 3 #[.agg #[.int .u8 a0, .int .u8 a1], .slice A0 l0.length c0] w fun e w' => e = .returned (.bool true) ∧ Below w.heap.size w w' := by
  have h0 : 0 ≤ a0 ∧ a0 ≤ 255 := by simp [Lit.wf, IntKind.min, IntKind.max, IntKind.signed, IntKind.bits] at wa0; omega
  have h1 : 0 ≤ a1 ∧ a1 ≤ 255 := by simp [Lit.wf, IntKind.min, IntKind.max, IntKind.signed, IntKind.bits] at wa1; omega
  obtain ⟨n0, rfl⟩ : ∃ n : Nat, a0 = (n : Int) := ⟨a0.toNat, by omega⟩
  obtain ⟨n1, rfl⟩ : ∃ n : Nat, a1 = (n : Int) := ⟨a1.toNat, by omega⟩
  exact plays_walk w n0 n1 (by omega) (by omega) A0 c0 l0 hC0
end Go.Proofs.Ytoleencecfjcjaa.At

-- PRINTED BY print.sh 35421559b90ae4d0a3588c463048766b98c2df88dd9212a6774a882060cdf62d: not written by this session
-- PRINTED WORDS (module Derived/Print/Sized.lean): go-gate-2's, for the rows of laws over slices: an AI agent of Go's test side, Tue Nov 17 2026; no person has read it. Lean checks it.
namespace Go.Proofs.YtoleencecfjcjaaW.PrintWords
open Go.ChangeShapes Go.WideShapes
end Go.Proofs.YtoleencecfjcjaaW.PrintWords

