/- RelayNothing. -/
import Derived.Test.YthokkeljfdfppaaMgK
set_option linter.unusedVariables false
set_option linter.unusedSimpArgs false
namespace Go.Proofs.Ythokkeljfdfppaa.Rl
open Go.RowKit Go.Proofs.YthokkeljfdfppaaW.PrintWords Go.Proofs.YthokkeljfdfppaaW.PrintLast Go.Proofs.YthokkeljfdfppaaW.PrintMore Go.Proofs.Ythokkeljfdfppaa.Pb Go.Proofs.Ythokkeljfdfppaa.Gw Go.Proofs.Ythokkeljfdfppaa.Pure
theorem keep_nil_x (f0 : ByteArray) (f1 k1 k2 k3 b1 b2 b3 : Int) (f4 : ByteArray) (f5 : Int) (f6 : List ByteArray) (A : Option Addr) (c : Nat) (w : World) :
 Calls Try.prog 31 #[.pointer none, .agg #[.string f0, .int .i64 f1, .int .i64 k1, .int .i64 k2, .int .i64 k3, .int .i64 b1, .int .i64 b2, .int .i64 b3, .string f4, .int .i64 f5, .slice A f6.length c]] w fun e w' => e = .returned (.int .i64 1) ∧ Below w.heap.size w w' := Keep_nil ⟨f0, f1, ⟨k1, k2, k3⟩, ⟨b1, b2, b3⟩, f4, f5, f6⟩ A c w
theorem keep_zero_x {w : World} {g : Nat} (h : ZeroRel w g) (f0 : ByteArray) (f1 k1 k2 k3 b1 b2 b3 : Int) (f4 : ByteArray) (f5 : Int) (f6 : List ByteArray) (A : Option Addr) (c : Nat) :
 Calls Try.prog 31 #[.pointer (some ⟨g, 0, none⟩), .agg #[.string f0, .int .i64 f1, .int .i64 k1, .int .i64 k2, .int .i64 k3, .int .i64 b1, .int .i64 b2, .int .i64 b3, .string f4, .int .i64 f5, .slice A f6.length c]] w fun e w' => e = .returned (.int .i64 1) ∧ Below w.heap.size w w' := Keep_zero h ⟨f0, f1, ⟨k1, k2, k3⟩, ⟨b1, b2, b3⟩, f4, f5, f6⟩ A c
theorem many_all {w : World} {g b : Nat} {no bytes : Int} {N : Nat} {L : List S55} (h : RS w g b no bytes N L) (hm : ∀ p ∈ L, MadeP p) :
 Calls Try.prog 35 #[.pointer (some ⟨g, 0, none⟩)] w fun e w' => e = .returned (.int .i64 (allTo L 4).length) ∧ Below w.heap.size w w' := by
 rw [(all_perm L hm).length_eq]
 exact Many_s h
structure NB (w0 : World) (X Z T : Nat) (fr tw : Int) (s : ByteArray) (W : World) : Prop where
 x : W.heap[X]? = some (.cells #[.int .i64 fr, .int .i64 tw, .string s] 68 (0, 0))
 z : ZeroRel W Z
 t : W.heap[T]? = some (.cells #[.pointer none, .pointer (some ⟨Z, 0, none⟩)] 83 (0, 0))
 b : Below w0.heap.size w0 W
theorem NB.below {w0 : World} {X Z T : Nat} {fr tw : Int} {s : ByteArray} {W W1 : World} (h : NB w0 X Z T fr tw s W) (hb : Below W.heap.size W W1) : NB w0 X Z T fr tw s W1 := ⟨blk_below h.x hb, blk_below h.z hb, blk_below h.t hb, h.b.trans (hb.mono h.b.size)⟩
set_option maxHeartbeats 16000000 in
set_option maxRecDepth 100000 in
theorem nothing_walk (w : World) (A0 : Option Addr) (c0 : Nat) (l0 : List S52) (bu fr tw : Int) (s : ByteArray) (hC0 : Kd.C k52 w A0 l0.length l0) :
 Calls Try.prog 9 #[.slice A0 l0.length c0, .int .i64 bu, .agg #[.int .i64 fr, .int .i64 tw, .string s]] w fun e w' => e = .returned (.bool true) ∧ Below w.heap.size w w' := by
 have HC0 := Lib.hid hC0
 have HX0 := Lib.hid (blk_new w (.cells #[.int .i64 fr, .int .i64 tw, .string s] 68 (0, 0)))
 have HB0 := Lib.hid (below_alloc (Below.refl w.heap.size w) (.cells #[.int .i64 fr, .int .i64 tw, .string s] 68 (0, 0)))
 clear hC0
 go_enter Try.func9, Try.ntmps9
 go_upto_region 2 with (go_at_call 14; refine (sanity_c _).mono ?_; rintro e Ws ⟨rfl, hb⟩; have HXs := Lib.hid (blk_below HX0.out hb); have HBs := Lib.hid (HB0.out.trans (hb.mono HB0.out.size)); clear hb)
 go_upto_region 3 with (go_at_call 20; refine (patches_r l0 A0 c0 _ (Kd.C_below HC0.out HBs.out)).mono ?_; rintro e Wp ⟨P, B, d, rfl, hp, hb⟩; have HP := Lib.hid (hp.mono (Q' := fun k => w.heap.size ≤ k) (fun k hk => Nat.le_trans HBs.out.size hk)); have HXp := Lib.hid (blk_below HXs.out hb); have HBp := Lib.hid (HBs.out.trans (hb.mono HBs.out.size)); clear hp hb)
 go_upto_block 0 with fail
 have hN : NB w w.heap.size Wp.heap.size (Wp.heap.size + 1) fr tw s ((Wp.alloc (.cells #[.int .i64 0, .int .i64 0, .int .i64 0, .int .i64 0, .map none] 82 (0, 0))).alloc (.cells #[.pointer none, .pointer (some ⟨Wp.heap.size, 0, none⟩)] 83 (0, 0))) :=
  ⟨blk_alloc (blk_alloc HXp.out (.cells #[.int .i64 0, .int .i64 0, .int .i64 0, .int .i64 0, .map none] 82 (0, 0))) (.cells #[.pointer none, .pointer (some ⟨Wp.heap.size, 0, none⟩)] 83 (0, 0)), blk_alloc (blk_new Wp (.cells #[.int .i64 0, .int .i64 0, .int .i64 0, .int .i64 0, .map none] 82 (0, 0))) (.cells #[.pointer none, .pointer (some ⟨Wp.heap.size, 0, none⟩)] 83 (0, 0)), by rw [← size1 Wp (.cells #[.int .i64 0, .int .i64 0, .int .i64 0, .int .i64 0, .map none] 82 (0, 0))]; exact blk_new _ _, below_alloc (below_alloc HBp.out (.cells #[.int .i64 0, .int .i64 0, .int .i64 0, .int .i64 0, .map none] 82 (0, 0))) (.cells #[.pointer none, .pointer (some ⟨Wp.heap.size, 0, none⟩)] 83 (0, 0))⟩
 have HP3 := Lib.hid (HP.out.below (below_alloc (below_alloc (Below.refl Wp.heap.size Wp) (.cells #[.int .i64 0, .int .i64 0, .int .i64 0, .int .i64 0, .map none] 82 (0, 0))) (.cells #[.pointer none, .pointer (some ⟨Wp.heap.size, 0, none⟩)] 83 (0, 0))))
 have HNB := Lib.hid hN
 clear hN HP HXp HXs HX0 HB0
 obtain ⟨Z, hZ⟩ : ∃ Z, Z = Wp.heap.size := ⟨_, rfl⟩
 simp only [← hZ] at HNB HP3 ⊢
 generalize (Wp.alloc (.cells #[.int .i64 0, .int .i64 0, .int .i64 0, .int .i64 0, .map none] 82 (0, 0))).alloc (.cells #[.pointer none, .pointer (some ⟨Z, 0, none⟩)] 83 (0, 0)) = W3 at HNB HP3 ⊢
 obtain ⟨T, hT⟩ : ∃ T, T = Z + 1 := ⟨_, rfl⟩
 simp only [← hT] at HNB ⊢
 clear hT hZ HBp HBs
 obtain ⟨np, hnp⟩ : ∃ n, n = P.length := ⟨_, rfl⟩
 have HNP := Lib.hid hnp
 rw [← hnp]
 clear hnp
 go_wp2
 go_loopg [10] 3 (fun kq v10 w' => (v10 = .int .i64 0 ∧ kq = 3 ∧ Below W3.heap.size W3 w') ∨ (v10 = .int .i64 1 ∧ kq = 2 ∧ Below W3.heap.size W3 w') ∨ (v10 = .int .i64 2 ∧ kq = 1 ∧ Below W3.heap.size W3 w'))
 case atStart => exact .inl ⟨rfl, rfl, Below.refl _ _⟩
 case round =>
  rcases hrel with ⟨rfl, hk, hb⟩ | ⟨rfl, hk, hb⟩ | ⟨rfl, hk, hb⟩
  · have HKQ := Lib.hid hk
    have HN1 := Lib.hid (HNB.out.below hb)
    have HBk := Lib.hid hb
    have HP1 := Lib.hid (HP3.out.below hb)
    clear hk hb
    have HNd := Lib.hid (HN1.out.below (below_drew (Below.refl wr.heap.size wr)))
    have HPd := Lib.hid (HP1.out.below (below_drew (Below.refl wr.heap.size wr)))
    obtain ⟨x0, x1, x2⟩ := box68 HNd.out.x
    have y0 : wr.drew.cell? ⟨T, 0, none⟩ = some (.pointer none) := ck HNd.out.t 0 _ rfl
    cases P with
    | nil =>
      have hnp : np = 0 := HNP.out
      subst hnp
      have lT : T < wr.drew.heap.size := World.block_lt_of_cell? _ _ y0
      have lX : w.heap.size < wr.drew.heap.size := World.block_lt_of_cell? _ _ x0
      have HBd := Lib.hid (HBk.out.drew)
      go_wp2
      refine start_ (n := 29) (S := fun w' => w'.cell? ⟨T, 0, none⟩ = some (.pointer none) ∧ w'.cell? ⟨w.heap.size, 0, none⟩ = some (.int .i64 fr) ∧ w'.cell? ⟨w.heap.size, 1, none⟩ = some (.int .i64 tw) ∧ w'.cell? ⟨w.heap.size, 2, none⟩ = some (.string s)) (ds := []) #[false, false, false, false, false, false, false, false, false, false, false, false, false, false, false, false, false, false, false, false, false, false, false, false, false, false, false, false, false] (by kernel_rfl) rfl rfl ⟨y0, x0, x1, x2⟩ (fun hHeld => ?_)
      generalize wr.drew = wd at HNd HPd HBd y0 x0 x1 x2 lT lX hHeld ⊢
      refine pA 0 (some 25) rfl rfl (by intro w'; go_simp; with_reducible rfl) (by simp only [Act.put, nS]; rfl) ?_
      refine pA 1 (some 26) rfl rfl (by intro w'; go_simp; with_reducible rfl) (by simp only [Act.put, nS]; rfl) ?_
      refine tA 2 (some 27) rfl rfl (by rintro w' ⟨s0, s1, s2, s3⟩; go_simp; with_reducible rfl) hHeld (by simp only [Act.put, nS]; rfl) ?_
      refine oA 3 (some 28) rfl rfl (fun K hK => ?_)
      refine goes_ Try.func35 (by kernel_rfl) rfl #[.pointer none] (by rfl) rfl rfl (by simp only [List.map_toArray, List.map_cons, List.map_nil]; rfl) ?_
      with_reducible refine (Many_nil _).mono ?_
      rintro e wa ⟨rfl, hb⟩
      refine ⟨_, rfl, ?_⟩
      have hH_ : wa.cell? ⟨T, 0, none⟩ = some (.pointer none) ∧ wa.cell? ⟨w.heap.size, 0, none⟩ = some (.int .i64 fr) ∧ wa.cell? ⟨w.heap.size, 1, none⟩ = some (.int .i64 tw) ∧ wa.cell? ⟨w.heap.size, 2, none⟩ = some (.string s) := ⟨(hb.cell lT).trans hHeld.1, (hb.cell lX).trans hHeld.2.1, (hb.cell lX).trans hHeld.2.2.1, (hb.cell lX).trans hHeld.2.2.2⟩
      have n_ := Lib.hid (HNd.out.below hb); clear HNd; have HNd := n_; clear n_; have n_ := Lib.hid (HPd.out.below hb); clear HPd; have HPd := n_; clear n_; have n_ := Lib.hid (HBd.out.trans (hb.mono HBd.out.size)); clear HBd; have HBd := n_; clear n_
      have lT_ := Nat.lt_of_lt_of_le lT hb.size; have lX_ := Nat.lt_of_lt_of_le lX hb.size; clear lT lX; have lT := lT_; have lX := lX_; clear lT_ lX_
      refine hK.out _ _ ⟨hH_.1, hH_.2.1, hH_.2.2.1, hH_.2.2.2⟩ (fun hHeld => norm_ (by show Act.put _ (some 28) _ = _; simp only [Act.put, nS]; rfl) ?_)
      clear hK K
      refine pA 4 (some 29) rfl rfl (by intro w'; go_simp; with_reducible rfl) (by simp only [Act.put, nS]; rfl) ?_
      refine pA 5 (some 30) rfl rfl (by intro w'; go_simp; with_reducible rfl) (by simp only [Act.put, nS]; rfl) ?_
      refine pA 6 (some 31) rfl rfl (by intro w'; go_simp; with_reducible rfl) (by simp only [Act.put, nS]; rfl) ?_
      refine pA 7 (some 32) rfl rfl (by intro w'; go_simp; with_reducible rfl) (by simp only [Act.put, nS]; rfl) ?_
      refine tA 8 (some 33) rfl rfl (by rintro w' ⟨s0, s1, s2, s3⟩; go_simp; with_reducible rfl) hHeld (by simp only [Act.put, nS]; rfl) ?_
      refine tA 9 (some 34) rfl rfl (by rintro w' ⟨s0, s1, s2, s3⟩; go_simp; with_reducible rfl) hHeld (by simp only [Act.put, nS]; rfl) ?_
      refine oA 10 (some 35) rfl rfl (fun K hK => ?_)
      refine goes_ Try.func33 (by kernel_rfl) rfl #[.pointer none, .agg #[.int .i64 fr, .int .i64 tw, .string s]] (by rfl) rfl rfl (by simp only [List.map_toArray, List.map_cons, List.map_nil]; rfl) ?_
      with_reducible refine (Take_nil fr tw s _).mono ?_
      rintro e wb ⟨rfl, hb2⟩
      refine ⟨_, rfl, ?_⟩
      have hH_ : wb.cell? ⟨T, 0, none⟩ = some (.pointer none) ∧ wb.cell? ⟨w.heap.size, 0, none⟩ = some (.int .i64 fr) ∧ wb.cell? ⟨w.heap.size, 1, none⟩ = some (.int .i64 tw) ∧ wb.cell? ⟨w.heap.size, 2, none⟩ = some (.string s) := ⟨(hb2.cell lT).trans hHeld.1, (hb2.cell lX).trans hHeld.2.1, (hb2.cell lX).trans hHeld.2.2.1, (hb2.cell lX).trans hHeld.2.2.2⟩
      have n_ := Lib.hid (HNd.out.below hb2); clear HNd; have HNd := n_; clear n_; have n_ := Lib.hid (HPd.out.below hb2); clear HPd; have HPd := n_; clear n_; have n_ := Lib.hid (HBd.out.trans (hb2.mono HBd.out.size)); clear HBd; have HBd := n_; clear n_
      have lT_ := Nat.lt_of_lt_of_le lT hb2.size; have lX_ := Nat.lt_of_lt_of_le lX hb2.size; clear lT lX; have lT := lT_; have lX := lX_; clear lT_ lX_
      refine hK.out _ _ ⟨hH_.1, hH_.2.1, hH_.2.2.1, hH_.2.2.2⟩ (fun hHeld => norm_ (by show Act.put _ (some 35) _ = _; simp only [Act.put, nS]; rfl) ?_)
      clear hK K
      refine pA 11 (some 36) rfl rfl (by intro w'; go_simp; with_reducible rfl) (by simp only [Act.put, nS]; rfl) ?_
      refine pA 12 (some 37) rfl rfl (by intro w'; go_simp; with_reducible rfl) (by simp only [Act.put, nS]; rfl) ?_
      refine pA 13 (some 38) rfl rfl (by intro w'; go_simp; with_reducible rfl) (by simp only [Act.put, nS]; rfl) ?_
      refine pA 14 (some 39) rfl rfl (by intro w'; go_simp; with_reducible rfl) (by simp only [Act.put, nS]; rfl) ?_
      refine pA 15 (some 40) rfl rfl (by intro w'; go_simp; with_reducible rfl) (by simp only [Act.put, nS]; rfl) ?_
      refine pA 16 (some 41) rfl rfl (by intro w'; go_simp; with_reducible rfl) (by simp only [Act.put, nS]; rfl) ?_
      refine pA 17 (some 42) rfl rfl (by intro w'; go_simp; with_reducible rfl) (by simp only [Act.put, nS]; rfl) ?_
      refine pA 18 (some 43) rfl rfl (by intro w'; go_simp; with_reducible rfl) (by simp only [Act.put, nS]; rfl) ?_
      refine pU 19 (some 44) rfl rfl (by simp only [Act.put, nS]; rfl) ?_
      refine pU 20 (some 45) rfl rfl (by simp only [Act.put, nS]; rfl) ?_
      refine pU 21 (some 46) rfl rfl (by simp only [Act.put, nS]; rfl) ?_
      refine pU 22 (some 47) rfl rfl (by simp only [Act.put, nS]; rfl) ?_
      refine pU 23 (some 48) rfl rfl (by simp only [Act.put, nS]; rfl) ?_
      refine pU 24 (some 49) rfl rfl (by simp only [Act.put, nS]; rfl) ?_
      refine pU 25 (some 50) rfl rfl (by simp only [Act.put, nS]; rfl) ?_
      refine pU 26 (some 51) rfl rfl (by simp only [Act.put, nS]; rfl) ?_
      refine pA 27 (some 52) rfl rfl (by intro w'; go_simp; with_reducible rfl) (by simp only [Act.put, nS]; rfl) ?_
      refine pA 28 (some 53) rfl rfl (by intro w'; go_simp; with_reducible rfl) (by simp only [Act.put, nS]; rfl) ?_
      refine done_ (by kernel_rfl) ?_
      go_wp2
      cases gk with
      | zero => exact absurd HKQ.out (by omega)
      | succ kk =>
        go_roundg kk
        case measure => omega
        case rel => exact .inr (.inl ⟨rfl, by have := HKQ.out; omega, HBd.out⟩)
    | cons p0 P' =>
      obtain ⟨gp, hgp⟩ := HPd.out.plain (by simp)
      subst hgp
      obtain ⟨Ap, cp, hrg, hcap, hCs⟩ := elem55C HPd.out.c (j := 0) (x := p0) rfl
      obtain ⟨f0, f1, ⟨k1, k2, k3⟩, ⟨b1, b2, b3⟩, f4, f5, f6⟩ := p0
      simp only at hrg hcap hCs
      have z0 : wr.drew.cell? ⟨gp, 0, none⟩ = some (.string f0) := (by have := hrg 0 _ rfl; simpa using this)
      have z1 : wr.drew.cell? ⟨gp, 1, none⟩ = some (.int .i64 f1) := (by have := hrg 1 _ rfl; simpa using this)
      have z2 : wr.drew.cell? ⟨gp, 2, none⟩ = some (.int .i64 k1) := (by have := hrg 2 _ rfl; simpa using this)
      have z3 : wr.drew.cell? ⟨gp, 3, none⟩ = some (.int .i64 k2) := (by have := hrg 3 _ rfl; simpa using this)
      have z4 : wr.drew.cell? ⟨gp, 4, none⟩ = some (.int .i64 k3) := (by have := hrg 4 _ rfl; simpa using this)
      have z5 : wr.drew.cell? ⟨gp, 5, none⟩ = some (.int .i64 b1) := (by have := hrg 5 _ rfl; simpa using this)
      have z6 : wr.drew.cell? ⟨gp, 6, none⟩ = some (.int .i64 b2) := (by have := hrg 6 _ rfl; simpa using this)
      have z7 : wr.drew.cell? ⟨gp, 7, none⟩ = some (.int .i64 b3) := (by have := hrg 7 _ rfl; simpa using this)
      have z8 : wr.drew.cell? ⟨gp, 8, none⟩ = some (.string f4) := (by have := hrg 8 _ rfl; simpa using this)
      have z9 : wr.drew.cell? ⟨gp, 9, none⟩ = some (.int .i64 f5) := (by have := hrg 9 _ rfl; simpa using this)
      have z10 : wr.drew.cell? ⟨gp, 10, none⟩ = some (.slice Ap f6.length cp) := (by have := hrg 10 _ rfl; simpa using this)
      clear hrg hcap hCs
      have l0 : gp < wr.drew.heap.size := World.block_lt_of_cell? _ _ z0
      have lT : T < wr.drew.heap.size := World.block_lt_of_cell? _ _ y0
      have lX : w.heap.size < wr.drew.heap.size := World.block_lt_of_cell? _ _ x0
      have HBd := Lib.hid (HBk.out.drew)
      have hnp : 0 < np := by have h1 := HNP.out; simp at h1; omega
      have dl2 : decide (0 < (np : Int)) = true := decide_eq_true (by omega)
      have dl3 : decide (0 < np) = true := decide_eq_true hnp
      have dl4 : ((0 : Int) < (np : Int)) = True := eq_true (by omega)
      have dl5 : (0 < np) = True := eq_true hnp
      clear hnp
      go_wp2
      refine start_ (n := 29) (S := fun w' => w'.cell? ⟨T, 0, none⟩ = some (.pointer none) ∧ w'.cell? ⟨w.heap.size, 0, none⟩ = some (.int .i64 fr) ∧ w'.cell? ⟨w.heap.size, 1, none⟩ = some (.int .i64 tw) ∧ w'.cell? ⟨w.heap.size, 2, none⟩ = some (.string s) ∧ w'.cell? ⟨gp, 0, none⟩ = some (.string f0) ∧ w'.cell? ⟨gp, 1, none⟩ = some (.int .i64 f1) ∧ w'.cell? ⟨gp, 2, none⟩ = some (.int .i64 k1) ∧ w'.cell? ⟨gp, 3, none⟩ = some (.int .i64 k2) ∧ w'.cell? ⟨gp, 4, none⟩ = some (.int .i64 k3) ∧ w'.cell? ⟨gp, 5, none⟩ = some (.int .i64 b1) ∧ w'.cell? ⟨gp, 6, none⟩ = some (.int .i64 b2) ∧ w'.cell? ⟨gp, 7, none⟩ = some (.int .i64 b3) ∧ w'.cell? ⟨gp, 8, none⟩ = some (.string f4) ∧ w'.cell? ⟨gp, 9, none⟩ = some (.int .i64 f5) ∧ w'.cell? ⟨gp, 10, none⟩ = some (.slice Ap f6.length cp)) (ds := []) #[false, false, false, false, false, false, false, false, false, false, false, false, false, false, false, false, false, false, false, false, false, false, false, false, false, false, false, false, false] (by kernel_rfl) rfl rfl ⟨y0, x0, x1, x2, z0, z1, z2, z3, z4, z5, z6, z7, z8, z9, z10⟩ (fun hHeld => ?_)
      generalize wr.drew = wd at HNd HPd HBd y0 x0 x1 x2 z0 z1 z2 z3 z4 z5 z6 z7 z8 z9 z10 lT lX l0 hHeld ⊢
      refine pA 0 (some 25) rfl rfl (by intro w'; go_simp; with_reducible rfl) (by simp only [Act.put, nS]; rfl) ?_
      refine pA 1 (some 26) rfl rfl (by intro w'; go_simp; with_reducible rfl) (by simp only [Act.put, nS]; rfl) ?_
      refine tA 2 (some 27) rfl rfl (by rintro w' ⟨s0, s1, s2, s3, s4, s5, s6, s7, s8, s9, s10, s11, s12, s13, s14⟩; go_simp; with_reducible rfl) hHeld (by simp only [Act.put, nS]; rfl) ?_
      refine oA 3 (some 28) rfl rfl (fun K hK => ?_)
      refine goes_ Try.func35 (by kernel_rfl) rfl #[.pointer none] (by rfl) rfl rfl (by simp only [List.map_toArray, List.map_cons, List.map_nil]; rfl) ?_
      with_reducible refine (Many_nil _).mono ?_
      rintro e wa ⟨rfl, hb⟩
      refine ⟨_, rfl, ?_⟩
      have hH_ : wa.cell? ⟨T, 0, none⟩ = some (.pointer none) ∧ wa.cell? ⟨w.heap.size, 0, none⟩ = some (.int .i64 fr) ∧ wa.cell? ⟨w.heap.size, 1, none⟩ = some (.int .i64 tw) ∧ wa.cell? ⟨w.heap.size, 2, none⟩ = some (.string s) ∧ wa.cell? ⟨gp, 0, none⟩ = some (.string f0) ∧ wa.cell? ⟨gp, 1, none⟩ = some (.int .i64 f1) ∧ wa.cell? ⟨gp, 2, none⟩ = some (.int .i64 k1) ∧ wa.cell? ⟨gp, 3, none⟩ = some (.int .i64 k2) ∧ wa.cell? ⟨gp, 4, none⟩ = some (.int .i64 k3) ∧ wa.cell? ⟨gp, 5, none⟩ = some (.int .i64 b1) ∧ wa.cell? ⟨gp, 6, none⟩ = some (.int .i64 b2) ∧ wa.cell? ⟨gp, 7, none⟩ = some (.int .i64 b3) ∧ wa.cell? ⟨gp, 8, none⟩ = some (.string f4) ∧ wa.cell? ⟨gp, 9, none⟩ = some (.int .i64 f5) ∧ wa.cell? ⟨gp, 10, none⟩ = some (.slice Ap f6.length cp) := ⟨(hb.cell lT).trans hHeld.1, (hb.cell lX).trans hHeld.2.1, (hb.cell lX).trans hHeld.2.2.1, (hb.cell lX).trans hHeld.2.2.2.1, (hb.cell l0).trans hHeld.2.2.2.2.1, (hb.cell l0).trans hHeld.2.2.2.2.2.1, (hb.cell l0).trans hHeld.2.2.2.2.2.2.1, (hb.cell l0).trans hHeld.2.2.2.2.2.2.2.1, (hb.cell l0).trans hHeld.2.2.2.2.2.2.2.2.1, (hb.cell l0).trans hHeld.2.2.2.2.2.2.2.2.2.1, (hb.cell l0).trans hHeld.2.2.2.2.2.2.2.2.2.2.1, (hb.cell l0).trans hHeld.2.2.2.2.2.2.2.2.2.2.2.1, (hb.cell l0).trans hHeld.2.2.2.2.2.2.2.2.2.2.2.2.1, (hb.cell l0).trans hHeld.2.2.2.2.2.2.2.2.2.2.2.2.2.1, (hb.cell l0).trans hHeld.2.2.2.2.2.2.2.2.2.2.2.2.2.2⟩
      have n_ := Lib.hid (HNd.out.below hb); clear HNd; have HNd := n_; clear n_; have n_ := Lib.hid (HPd.out.below hb); clear HPd; have HPd := n_; clear n_; have n_ := Lib.hid (HBd.out.trans (hb.mono HBd.out.size)); clear HBd; have HBd := n_; clear n_
      have lT_ := Nat.lt_of_lt_of_le lT hb.size; have lX_ := Nat.lt_of_lt_of_le lX hb.size; clear lT lX; have lT := lT_; have lX := lX_; clear lT_ lX_; have l0_ := Nat.lt_of_lt_of_le l0 hb.size; clear l0; have l0 := l0_; clear l0_
      refine hK.out _ _ ⟨hH_.1, hH_.2.1, hH_.2.2.1, hH_.2.2.2.1, hH_.2.2.2.2.1, hH_.2.2.2.2.2.1, hH_.2.2.2.2.2.2.1, hH_.2.2.2.2.2.2.2.1, hH_.2.2.2.2.2.2.2.2.1, hH_.2.2.2.2.2.2.2.2.2.1, hH_.2.2.2.2.2.2.2.2.2.2.1, hH_.2.2.2.2.2.2.2.2.2.2.2.1, hH_.2.2.2.2.2.2.2.2.2.2.2.2.1, hH_.2.2.2.2.2.2.2.2.2.2.2.2.2.1, hH_.2.2.2.2.2.2.2.2.2.2.2.2.2.2⟩ (fun hHeld => norm_ (by show Act.put _ (some 28) _ = _; simp only [Act.put, nS]; rfl) ?_)
      clear hK K
      refine pA 4 (some 29) rfl rfl (by intro w'; go_simp; with_reducible rfl) (by simp only [Act.put, nS]; rfl) ?_
      refine pA 5 (some 30) rfl rfl (by intro w'; go_simp; with_reducible rfl) (by simp only [Act.put, nS]; rfl) ?_
      refine pA 6 (some 31) rfl rfl (by intro w'; go_simp; with_reducible rfl) (by simp only [Act.put, nS]; rfl) ?_
      refine pA 7 (some 32) rfl rfl (by intro w'; go_simp; with_reducible rfl) (by simp only [Act.put, nS]; rfl) ?_
      refine tA 8 (some 33) rfl rfl (by rintro w' ⟨s0, s1, s2, s3, s4, s5, s6, s7, s8, s9, s10, s11, s12, s13, s14⟩; go_simp; with_reducible rfl) hHeld (by simp only [Act.put, nS]; rfl) ?_
      refine tA 9 (some 34) rfl rfl (by rintro w' ⟨s0, s1, s2, s3, s4, s5, s6, s7, s8, s9, s10, s11, s12, s13, s14⟩; go_simp; with_reducible rfl) hHeld (by simp only [Act.put, nS]; rfl) ?_
      refine oA 10 (some 35) rfl rfl (fun K hK => ?_)
      refine goes_ Try.func33 (by kernel_rfl) rfl #[.pointer none, .agg #[.int .i64 fr, .int .i64 tw, .string s]] (by rfl) rfl rfl (by simp only [List.map_toArray, List.map_cons, List.map_nil]; rfl) ?_
      with_reducible refine (Take_nil fr tw s _).mono ?_
      rintro e wb ⟨rfl, hb2⟩
      refine ⟨_, rfl, ?_⟩
      have hH_ : wb.cell? ⟨T, 0, none⟩ = some (.pointer none) ∧ wb.cell? ⟨w.heap.size, 0, none⟩ = some (.int .i64 fr) ∧ wb.cell? ⟨w.heap.size, 1, none⟩ = some (.int .i64 tw) ∧ wb.cell? ⟨w.heap.size, 2, none⟩ = some (.string s) ∧ wb.cell? ⟨gp, 0, none⟩ = some (.string f0) ∧ wb.cell? ⟨gp, 1, none⟩ = some (.int .i64 f1) ∧ wb.cell? ⟨gp, 2, none⟩ = some (.int .i64 k1) ∧ wb.cell? ⟨gp, 3, none⟩ = some (.int .i64 k2) ∧ wb.cell? ⟨gp, 4, none⟩ = some (.int .i64 k3) ∧ wb.cell? ⟨gp, 5, none⟩ = some (.int .i64 b1) ∧ wb.cell? ⟨gp, 6, none⟩ = some (.int .i64 b2) ∧ wb.cell? ⟨gp, 7, none⟩ = some (.int .i64 b3) ∧ wb.cell? ⟨gp, 8, none⟩ = some (.string f4) ∧ wb.cell? ⟨gp, 9, none⟩ = some (.int .i64 f5) ∧ wb.cell? ⟨gp, 10, none⟩ = some (.slice Ap f6.length cp) := ⟨(hb2.cell lT).trans hHeld.1, (hb2.cell lX).trans hHeld.2.1, (hb2.cell lX).trans hHeld.2.2.1, (hb2.cell lX).trans hHeld.2.2.2.1, (hb2.cell l0).trans hHeld.2.2.2.2.1, (hb2.cell l0).trans hHeld.2.2.2.2.2.1, (hb2.cell l0).trans hHeld.2.2.2.2.2.2.1, (hb2.cell l0).trans hHeld.2.2.2.2.2.2.2.1, (hb2.cell l0).trans hHeld.2.2.2.2.2.2.2.2.1, (hb2.cell l0).trans hHeld.2.2.2.2.2.2.2.2.2.1, (hb2.cell l0).trans hHeld.2.2.2.2.2.2.2.2.2.2.1, (hb2.cell l0).trans hHeld.2.2.2.2.2.2.2.2.2.2.2.1, (hb2.cell l0).trans hHeld.2.2.2.2.2.2.2.2.2.2.2.2.1, (hb2.cell l0).trans hHeld.2.2.2.2.2.2.2.2.2.2.2.2.2.1, (hb2.cell l0).trans hHeld.2.2.2.2.2.2.2.2.2.2.2.2.2.2⟩
      have n_ := Lib.hid (HNd.out.below hb2); clear HNd; have HNd := n_; clear n_; have n_ := Lib.hid (HPd.out.below hb2); clear HPd; have HPd := n_; clear n_; have n_ := Lib.hid (HBd.out.trans (hb2.mono HBd.out.size)); clear HBd; have HBd := n_; clear n_
      have lT_ := Nat.lt_of_lt_of_le lT hb2.size; have lX_ := Nat.lt_of_lt_of_le lX hb2.size; clear lT lX; have lT := lT_; have lX := lX_; clear lT_ lX_; have l0_ := Nat.lt_of_lt_of_le l0 hb2.size; clear l0; have l0 := l0_; clear l0_
      refine hK.out _ _ ⟨hH_.1, hH_.2.1, hH_.2.2.1, hH_.2.2.2.1, hH_.2.2.2.2.1, hH_.2.2.2.2.2.1, hH_.2.2.2.2.2.2.1, hH_.2.2.2.2.2.2.2.1, hH_.2.2.2.2.2.2.2.2.1, hH_.2.2.2.2.2.2.2.2.2.1, hH_.2.2.2.2.2.2.2.2.2.2.1, hH_.2.2.2.2.2.2.2.2.2.2.2.1, hH_.2.2.2.2.2.2.2.2.2.2.2.2.1, hH_.2.2.2.2.2.2.2.2.2.2.2.2.2.1, hH_.2.2.2.2.2.2.2.2.2.2.2.2.2.2⟩ (fun hHeld => norm_ (by show Act.put _ (some 35) _ = _; simp only [Act.put, nS]; rfl) ?_)
      clear hK K
      refine pA 11 (some 36) rfl rfl (by intro w'; go_simp; with_reducible rfl) (by simp only [Act.put, nS]; rfl) ?_
      refine pA 12 (some 37) rfl rfl (by intro w'; go_simp; with_reducible rfl) (by simp only [Act.put, nS]; rfl) ?_
      refine pA 13 (some 38) rfl rfl (by intro w'; go_simp; with_reducible rfl) (by simp only [Act.put, nS]; rfl) ?_
      refine pA 14 (some 39) rfl rfl (by intro w'; go_simp; with_reducible rfl) (by simp only [Act.put, nS]; rfl) ?_
      refine pA 15 (some 40) rfl rfl (by intro w'; go_simp; with_reducible rfl) (by simp only [Act.put, nS]; rfl) ?_
      refine pA 16 (some 41) rfl rfl (by intro w'; go_simp; with_reducible rfl) (by simp only [Act.put, nS]; rfl) ?_
      refine pA 17 (some 42) rfl rfl (by intro w'; go_simp; with_reducible rfl) (by simp only [Act.put, nS]; rfl) ?_
      refine pA 18 (some 43) rfl rfl (by intro w'; go_simp; with_reducible rfl) (by simp only [Act.put, nS]; rfl) ?_
      refine pA 19 (some 44) rfl rfl (by intro w'; go_simp; with_reducible rfl) (by simp only [Act.put, nS]; rfl) ?_
      refine pA 20 (some 45) rfl rfl (by intro w'; go_simp; with_reducible rfl) (by simp only [Act.put, nS]; rfl) ?_
      refine pA 22 (some 47) rfl rfl (by intro w'; go_simp; with_reducible rfl) (by simp only [Act.put, nS]; rfl) ?_
      refine pA 23 (some 48) rfl rfl (by intro w'; go_simp; with_reducible rfl) (by simp only [Act.put, nS]; rfl) ?_
      refine tA 21 (some 46) rfl rfl (by rintro w' ⟨s0, s1, s2, s3, s4, s5, s6, s7, s8, s9, s10, s11, s12, s13, s14⟩; go_simp; with_reducible rfl) hHeld (by simp only [Act.put, nS]; rfl) ?_
      refine tA 24 (some 49) rfl rfl (by rintro w' ⟨s0, s1, s2, s3, s4, s5, s6, s7, s8, s9, s10, s11, s12, s13, s14⟩; go_simp; with_reducible rfl) hHeld (by simp only [Act.put, nS]; rfl) ?_
      refine oA 25 (some 50) rfl rfl (fun K hK => ?_)
      refine goes_ Try.func31 (by kernel_rfl) rfl #[.pointer none, .agg #[.string f0, .int .i64 f1, .int .i64 k1, .int .i64 k2, .int .i64 k3, .int .i64 b1, .int .i64 b2, .int .i64 b3, .string f4, .int .i64 f5, .slice Ap f6.length cp]] (by rfl) rfl rfl (by simp only [List.map_toArray, List.map_cons, List.map_nil]; rfl) ?_
      with_reducible refine (keep_nil_x f0 f1 k1 k2 k3 b1 b2 b3 f4 f5 f6 Ap cp _).mono ?_
      rintro e wc ⟨rfl, hb3⟩
      refine ⟨_, rfl, ?_⟩
      have hH_ : wc.cell? ⟨T, 0, none⟩ = some (.pointer none) ∧ wc.cell? ⟨w.heap.size, 0, none⟩ = some (.int .i64 fr) ∧ wc.cell? ⟨w.heap.size, 1, none⟩ = some (.int .i64 tw) ∧ wc.cell? ⟨w.heap.size, 2, none⟩ = some (.string s) ∧ wc.cell? ⟨gp, 0, none⟩ = some (.string f0) ∧ wc.cell? ⟨gp, 1, none⟩ = some (.int .i64 f1) ∧ wc.cell? ⟨gp, 2, none⟩ = some (.int .i64 k1) ∧ wc.cell? ⟨gp, 3, none⟩ = some (.int .i64 k2) ∧ wc.cell? ⟨gp, 4, none⟩ = some (.int .i64 k3) ∧ wc.cell? ⟨gp, 5, none⟩ = some (.int .i64 b1) ∧ wc.cell? ⟨gp, 6, none⟩ = some (.int .i64 b2) ∧ wc.cell? ⟨gp, 7, none⟩ = some (.int .i64 b3) ∧ wc.cell? ⟨gp, 8, none⟩ = some (.string f4) ∧ wc.cell? ⟨gp, 9, none⟩ = some (.int .i64 f5) ∧ wc.cell? ⟨gp, 10, none⟩ = some (.slice Ap f6.length cp) := ⟨(hb3.cell lT).trans hHeld.1, (hb3.cell lX).trans hHeld.2.1, (hb3.cell lX).trans hHeld.2.2.1, (hb3.cell lX).trans hHeld.2.2.2.1, (hb3.cell l0).trans hHeld.2.2.2.2.1, (hb3.cell l0).trans hHeld.2.2.2.2.2.1, (hb3.cell l0).trans hHeld.2.2.2.2.2.2.1, (hb3.cell l0).trans hHeld.2.2.2.2.2.2.2.1, (hb3.cell l0).trans hHeld.2.2.2.2.2.2.2.2.1, (hb3.cell l0).trans hHeld.2.2.2.2.2.2.2.2.2.1, (hb3.cell l0).trans hHeld.2.2.2.2.2.2.2.2.2.2.1, (hb3.cell l0).trans hHeld.2.2.2.2.2.2.2.2.2.2.2.1, (hb3.cell l0).trans hHeld.2.2.2.2.2.2.2.2.2.2.2.2.1, (hb3.cell l0).trans hHeld.2.2.2.2.2.2.2.2.2.2.2.2.2.1, (hb3.cell l0).trans hHeld.2.2.2.2.2.2.2.2.2.2.2.2.2.2⟩
      have n_ := Lib.hid (HNd.out.below hb3); clear HNd; have HNd := n_; clear n_; have n_ := Lib.hid (HPd.out.below hb3); clear HPd; have HPd := n_; clear n_; have n_ := Lib.hid (HBd.out.trans (hb3.mono HBd.out.size)); clear HBd; have HBd := n_; clear n_
      have lT_ := Nat.lt_of_lt_of_le lT hb3.size; have lX_ := Nat.lt_of_lt_of_le lX hb3.size; clear lT lX; have lT := lT_; have lX := lX_; clear lT_ lX_; have l0_ := Nat.lt_of_lt_of_le l0 hb3.size; clear l0; have l0 := l0_; clear l0_
      refine hK.out _ _ ⟨hH_.1, hH_.2.1, hH_.2.2.1, hH_.2.2.2.1, hH_.2.2.2.2.1, hH_.2.2.2.2.2.1, hH_.2.2.2.2.2.2.1, hH_.2.2.2.2.2.2.2.1, hH_.2.2.2.2.2.2.2.2.1, hH_.2.2.2.2.2.2.2.2.2.1, hH_.2.2.2.2.2.2.2.2.2.2.1, hH_.2.2.2.2.2.2.2.2.2.2.2.1, hH_.2.2.2.2.2.2.2.2.2.2.2.2.1, hH_.2.2.2.2.2.2.2.2.2.2.2.2.2.1, hH_.2.2.2.2.2.2.2.2.2.2.2.2.2.2⟩ (fun hHeld => norm_ (by show Act.put _ (some 50) _ = _; simp only [Act.put, nS]; rfl) ?_)
      clear hK K
      refine pA 26 (some 51) rfl rfl (by intro w'; go_simp; with_reducible rfl) (by simp only [Act.put, nS]; rfl) ?_
      refine pA 27 (some 52) rfl rfl (by intro w'; go_simp; with_reducible rfl) (by simp only [Act.put, nS]; rfl) ?_
      refine pA 28 (some 53) rfl rfl (by intro w'; go_simp; with_reducible rfl) (by simp only [Act.put, nS]; rfl) ?_
      refine done_ (by kernel_rfl) ?_
      go_wp2
      cases gk with
      | zero => exact absurd HKQ.out (by omega)
      | succ kk =>
        go_roundg kk
        case measure => omega
        case rel => exact .inr (.inl ⟨rfl, by have := HKQ.out; omega, HBd.out⟩)
  · have HKQ := Lib.hid hk
    have HN1 := Lib.hid (HNB.out.below hb)
    have HBk := Lib.hid hb
    have HP1 := Lib.hid (HP3.out.below hb)
    clear hk hb
    have HNd := Lib.hid (HN1.out.below (below_drew (Below.refl wr.heap.size wr)))
    have HPd := Lib.hid (HP1.out.below (below_drew (Below.refl wr.heap.size wr)))
    obtain ⟨x0, x1, x2⟩ := box68 HNd.out.x
    have y0 : wr.drew.cell? ⟨T, 1, none⟩ = some (.pointer (some ⟨Z, 0, none⟩)) := ck HNd.out.t 1 _ rfl
    cases P with
    | nil =>
      have hnp : np = 0 := HNP.out
      subst hnp
      have lT : T < wr.drew.heap.size := World.block_lt_of_cell? _ _ y0
      have lX : w.heap.size < wr.drew.heap.size := World.block_lt_of_cell? _ _ x0
      have HBd := Lib.hid (HBk.out.drew)
      go_wp2
      refine start_ (n := 29) (S := fun w' => w'.cell? ⟨T, 1, none⟩ = some (.pointer (some ⟨Z, 0, none⟩)) ∧ w'.cell? ⟨w.heap.size, 0, none⟩ = some (.int .i64 fr) ∧ w'.cell? ⟨w.heap.size, 1, none⟩ = some (.int .i64 tw) ∧ w'.cell? ⟨w.heap.size, 2, none⟩ = some (.string s)) (ds := []) #[false, false, false, false, false, false, false, false, false, false, false, false, false, false, false, false, false, false, false, false, false, false, false, false, false, false, false, false, false] (by kernel_rfl) rfl rfl ⟨y0, x0, x1, x2⟩ (fun hHeld => ?_)
      generalize wr.drew = wd at HNd HPd HBd y0 x0 x1 x2 lT lX hHeld ⊢
      refine pA 0 (some 25) rfl rfl (by intro w'; go_simp; with_reducible rfl) (by simp only [Act.put, nS]; rfl) ?_
      refine pA 1 (some 26) rfl rfl (by intro w'; go_simp; with_reducible rfl) (by simp only [Act.put, nS]; rfl) ?_
      refine tA 2 (some 27) rfl rfl (by rintro w' ⟨s0, s1, s2, s3⟩; go_simp; with_reducible rfl) hHeld (by simp only [Act.put, nS]; rfl) ?_
      refine oA 3 (some 28) rfl rfl (fun K hK => ?_)
      refine goes_ Try.func35 (by kernel_rfl) rfl #[.pointer (some ⟨Z, 0, none⟩)] (by rfl) rfl rfl (by simp only [List.map_toArray, List.map_cons, List.map_nil]; rfl) ?_
      with_reducible refine (Many_zero HNd.out.z).mono ?_
      rintro e wa ⟨rfl, hb⟩
      refine ⟨_, rfl, ?_⟩
      have hH_ : wa.cell? ⟨T, 1, none⟩ = some (.pointer (some ⟨Z, 0, none⟩)) ∧ wa.cell? ⟨w.heap.size, 0, none⟩ = some (.int .i64 fr) ∧ wa.cell? ⟨w.heap.size, 1, none⟩ = some (.int .i64 tw) ∧ wa.cell? ⟨w.heap.size, 2, none⟩ = some (.string s) := ⟨(hb.cell lT).trans hHeld.1, (hb.cell lX).trans hHeld.2.1, (hb.cell lX).trans hHeld.2.2.1, (hb.cell lX).trans hHeld.2.2.2⟩
      have n_ := Lib.hid (HNd.out.below hb); clear HNd; have HNd := n_; clear n_; have n_ := Lib.hid (HPd.out.below hb); clear HPd; have HPd := n_; clear n_; have n_ := Lib.hid (HBd.out.trans (hb.mono HBd.out.size)); clear HBd; have HBd := n_; clear n_
      have lT_ := Nat.lt_of_lt_of_le lT hb.size; have lX_ := Nat.lt_of_lt_of_le lX hb.size; clear lT lX; have lT := lT_; have lX := lX_; clear lT_ lX_
      refine hK.out _ _ ⟨hH_.1, hH_.2.1, hH_.2.2.1, hH_.2.2.2⟩ (fun hHeld => norm_ (by show Act.put _ (some 28) _ = _; simp only [Act.put, nS]; rfl) ?_)
      clear hK K
      refine pA 4 (some 29) rfl rfl (by intro w'; go_simp; with_reducible rfl) (by simp only [Act.put, nS]; rfl) ?_
      refine pA 5 (some 30) rfl rfl (by intro w'; go_simp; with_reducible rfl) (by simp only [Act.put, nS]; rfl) ?_
      refine pA 6 (some 31) rfl rfl (by intro w'; go_simp; with_reducible rfl) (by simp only [Act.put, nS]; rfl) ?_
      refine pA 7 (some 32) rfl rfl (by intro w'; go_simp; with_reducible rfl) (by simp only [Act.put, nS]; rfl) ?_
      refine tA 8 (some 33) rfl rfl (by rintro w' ⟨s0, s1, s2, s3⟩; go_simp; with_reducible rfl) hHeld (by simp only [Act.put, nS]; rfl) ?_
      refine tA 9 (some 34) rfl rfl (by rintro w' ⟨s0, s1, s2, s3⟩; go_simp; with_reducible rfl) hHeld (by simp only [Act.put, nS]; rfl) ?_
      refine oA 10 (some 35) rfl rfl (fun K hK => ?_)
      refine goes_ Try.func33 (by kernel_rfl) rfl #[.pointer (some ⟨Z, 0, none⟩), .agg #[.int .i64 fr, .int .i64 tw, .string s]] (by rfl) rfl rfl (by simp only [List.map_toArray, List.map_cons, List.map_nil]; rfl) ?_
      with_reducible refine (Take_zero HNd.out.z fr tw s).mono ?_
      rintro e wb ⟨rfl, hb2⟩
      refine ⟨_, rfl, ?_⟩
      have hH_ : wb.cell? ⟨T, 1, none⟩ = some (.pointer (some ⟨Z, 0, none⟩)) ∧ wb.cell? ⟨w.heap.size, 0, none⟩ = some (.int .i64 fr) ∧ wb.cell? ⟨w.heap.size, 1, none⟩ = some (.int .i64 tw) ∧ wb.cell? ⟨w.heap.size, 2, none⟩ = some (.string s) := ⟨(hb2.cell lT).trans hHeld.1, (hb2.cell lX).trans hHeld.2.1, (hb2.cell lX).trans hHeld.2.2.1, (hb2.cell lX).trans hHeld.2.2.2⟩
      have n_ := Lib.hid (HNd.out.below hb2); clear HNd; have HNd := n_; clear n_; have n_ := Lib.hid (HPd.out.below hb2); clear HPd; have HPd := n_; clear n_; have n_ := Lib.hid (HBd.out.trans (hb2.mono HBd.out.size)); clear HBd; have HBd := n_; clear n_
      have lT_ := Nat.lt_of_lt_of_le lT hb2.size; have lX_ := Nat.lt_of_lt_of_le lX hb2.size; clear lT lX; have lT := lT_; have lX := lX_; clear lT_ lX_
      refine hK.out _ _ ⟨hH_.1, hH_.2.1, hH_.2.2.1, hH_.2.2.2⟩ (fun hHeld => norm_ (by show Act.put _ (some 35) _ = _; simp only [Act.put, nS]; rfl) ?_)
      clear hK K
      refine pA 11 (some 36) rfl rfl (by intro w'; go_simp; with_reducible rfl) (by simp only [Act.put, nS]; rfl) ?_
      refine pA 12 (some 37) rfl rfl (by intro w'; go_simp; with_reducible rfl) (by simp only [Act.put, nS]; rfl) ?_
      refine pA 13 (some 38) rfl rfl (by intro w'; go_simp; with_reducible rfl) (by simp only [Act.put, nS]; rfl) ?_
      refine pA 14 (some 39) rfl rfl (by intro w'; go_simp; with_reducible rfl) (by simp only [Act.put, nS]; rfl) ?_
      refine pA 15 (some 40) rfl rfl (by intro w'; go_simp; with_reducible rfl) (by simp only [Act.put, nS]; rfl) ?_
      refine pA 16 (some 41) rfl rfl (by intro w'; go_simp; with_reducible rfl) (by simp only [Act.put, nS]; rfl) ?_
      refine pA 17 (some 42) rfl rfl (by intro w'; go_simp; with_reducible rfl) (by simp only [Act.put, nS]; rfl) ?_
      refine pA 18 (some 43) rfl rfl (by intro w'; go_simp; with_reducible rfl) (by simp only [Act.put, nS]; rfl) ?_
      refine pU 19 (some 44) rfl rfl (by simp only [Act.put, nS]; rfl) ?_
      refine pU 20 (some 45) rfl rfl (by simp only [Act.put, nS]; rfl) ?_
      refine pU 21 (some 46) rfl rfl (by simp only [Act.put, nS]; rfl) ?_
      refine pU 22 (some 47) rfl rfl (by simp only [Act.put, nS]; rfl) ?_
      refine pU 23 (some 48) rfl rfl (by simp only [Act.put, nS]; rfl) ?_
      refine pU 24 (some 49) rfl rfl (by simp only [Act.put, nS]; rfl) ?_
      refine pU 25 (some 50) rfl rfl (by simp only [Act.put, nS]; rfl) ?_
      refine pU 26 (some 51) rfl rfl (by simp only [Act.put, nS]; rfl) ?_
      refine pA 27 (some 52) rfl rfl (by intro w'; go_simp; with_reducible rfl) (by simp only [Act.put, nS]; rfl) ?_
      refine pA 28 (some 53) rfl rfl (by intro w'; go_simp; with_reducible rfl) (by simp only [Act.put, nS]; rfl) ?_
      refine done_ (by kernel_rfl) ?_
      go_wp2
      cases gk with
      | zero => exact absurd HKQ.out (by omega)
      | succ kk =>
        go_roundg kk
        case measure => omega
        case rel => exact .inr (.inr ⟨rfl, by have := HKQ.out; omega, HBd.out⟩)
    | cons p0 P' =>
      obtain ⟨gp, hgp⟩ := HPd.out.plain (by simp)
      subst hgp
      obtain ⟨Ap, cp, hrg, hcap, hCs⟩ := elem55C HPd.out.c (j := 0) (x := p0) rfl
      obtain ⟨f0, f1, ⟨k1, k2, k3⟩, ⟨b1, b2, b3⟩, f4, f5, f6⟩ := p0
      simp only at hrg hcap hCs
      have z0 : wr.drew.cell? ⟨gp, 0, none⟩ = some (.string f0) := (by have := hrg 0 _ rfl; simpa using this)
      have z1 : wr.drew.cell? ⟨gp, 1, none⟩ = some (.int .i64 f1) := (by have := hrg 1 _ rfl; simpa using this)
      have z2 : wr.drew.cell? ⟨gp, 2, none⟩ = some (.int .i64 k1) := (by have := hrg 2 _ rfl; simpa using this)
      have z3 : wr.drew.cell? ⟨gp, 3, none⟩ = some (.int .i64 k2) := (by have := hrg 3 _ rfl; simpa using this)
      have z4 : wr.drew.cell? ⟨gp, 4, none⟩ = some (.int .i64 k3) := (by have := hrg 4 _ rfl; simpa using this)
      have z5 : wr.drew.cell? ⟨gp, 5, none⟩ = some (.int .i64 b1) := (by have := hrg 5 _ rfl; simpa using this)
      have z6 : wr.drew.cell? ⟨gp, 6, none⟩ = some (.int .i64 b2) := (by have := hrg 6 _ rfl; simpa using this)
      have z7 : wr.drew.cell? ⟨gp, 7, none⟩ = some (.int .i64 b3) := (by have := hrg 7 _ rfl; simpa using this)
      have z8 : wr.drew.cell? ⟨gp, 8, none⟩ = some (.string f4) := (by have := hrg 8 _ rfl; simpa using this)
      have z9 : wr.drew.cell? ⟨gp, 9, none⟩ = some (.int .i64 f5) := (by have := hrg 9 _ rfl; simpa using this)
      have z10 : wr.drew.cell? ⟨gp, 10, none⟩ = some (.slice Ap f6.length cp) := (by have := hrg 10 _ rfl; simpa using this)
      clear hrg hcap hCs
      have l0 : gp < wr.drew.heap.size := World.block_lt_of_cell? _ _ z0
      have lT : T < wr.drew.heap.size := World.block_lt_of_cell? _ _ y0
      have lX : w.heap.size < wr.drew.heap.size := World.block_lt_of_cell? _ _ x0
      have HBd := Lib.hid (HBk.out.drew)
      have hnp : 0 < np := by have h1 := HNP.out; simp at h1; omega
      have dl2 : decide (0 < (np : Int)) = true := decide_eq_true (by omega)
      have dl3 : decide (0 < np) = true := decide_eq_true hnp
      have dl4 : ((0 : Int) < (np : Int)) = True := eq_true (by omega)
      have dl5 : (0 < np) = True := eq_true hnp
      clear hnp
      go_wp2
      refine start_ (n := 29) (S := fun w' => w'.cell? ⟨T, 1, none⟩ = some (.pointer (some ⟨Z, 0, none⟩)) ∧ w'.cell? ⟨w.heap.size, 0, none⟩ = some (.int .i64 fr) ∧ w'.cell? ⟨w.heap.size, 1, none⟩ = some (.int .i64 tw) ∧ w'.cell? ⟨w.heap.size, 2, none⟩ = some (.string s) ∧ w'.cell? ⟨gp, 0, none⟩ = some (.string f0) ∧ w'.cell? ⟨gp, 1, none⟩ = some (.int .i64 f1) ∧ w'.cell? ⟨gp, 2, none⟩ = some (.int .i64 k1) ∧ w'.cell? ⟨gp, 3, none⟩ = some (.int .i64 k2) ∧ w'.cell? ⟨gp, 4, none⟩ = some (.int .i64 k3) ∧ w'.cell? ⟨gp, 5, none⟩ = some (.int .i64 b1) ∧ w'.cell? ⟨gp, 6, none⟩ = some (.int .i64 b2) ∧ w'.cell? ⟨gp, 7, none⟩ = some (.int .i64 b3) ∧ w'.cell? ⟨gp, 8, none⟩ = some (.string f4) ∧ w'.cell? ⟨gp, 9, none⟩ = some (.int .i64 f5) ∧ w'.cell? ⟨gp, 10, none⟩ = some (.slice Ap f6.length cp)) (ds := []) #[false, false, false, false, false, false, false, false, false, false, false, false, false, false, false, false, false, false, false, false, false, false, false, false, false, false, false, false, false] (by kernel_rfl) rfl rfl ⟨y0, x0, x1, x2, z0, z1, z2, z3, z4, z5, z6, z7, z8, z9, z10⟩ (fun hHeld => ?_)
      generalize wr.drew = wd at HNd HPd HBd y0 x0 x1 x2 z0 z1 z2 z3 z4 z5 z6 z7 z8 z9 z10 lT lX l0 hHeld ⊢
      refine pA 0 (some 25) rfl rfl (by intro w'; go_simp; with_reducible rfl) (by simp only [Act.put, nS]; rfl) ?_
      refine pA 1 (some 26) rfl rfl (by intro w'; go_simp; with_reducible rfl) (by simp only [Act.put, nS]; rfl) ?_
      refine tA 2 (some 27) rfl rfl (by rintro w' ⟨s0, s1, s2, s3, s4, s5, s6, s7, s8, s9, s10, s11, s12, s13, s14⟩; go_simp; with_reducible rfl) hHeld (by simp only [Act.put, nS]; rfl) ?_
      refine oA 3 (some 28) rfl rfl (fun K hK => ?_)
      refine goes_ Try.func35 (by kernel_rfl) rfl #[.pointer (some ⟨Z, 0, none⟩)] (by rfl) rfl rfl (by simp only [List.map_toArray, List.map_cons, List.map_nil]; rfl) ?_
      with_reducible refine (Many_zero HNd.out.z).mono ?_
      rintro e wa ⟨rfl, hb⟩
      refine ⟨_, rfl, ?_⟩
      have hH_ : wa.cell? ⟨T, 1, none⟩ = some (.pointer (some ⟨Z, 0, none⟩)) ∧ wa.cell? ⟨w.heap.size, 0, none⟩ = some (.int .i64 fr) ∧ wa.cell? ⟨w.heap.size, 1, none⟩ = some (.int .i64 tw) ∧ wa.cell? ⟨w.heap.size, 2, none⟩ = some (.string s) ∧ wa.cell? ⟨gp, 0, none⟩ = some (.string f0) ∧ wa.cell? ⟨gp, 1, none⟩ = some (.int .i64 f1) ∧ wa.cell? ⟨gp, 2, none⟩ = some (.int .i64 k1) ∧ wa.cell? ⟨gp, 3, none⟩ = some (.int .i64 k2) ∧ wa.cell? ⟨gp, 4, none⟩ = some (.int .i64 k3) ∧ wa.cell? ⟨gp, 5, none⟩ = some (.int .i64 b1) ∧ wa.cell? ⟨gp, 6, none⟩ = some (.int .i64 b2) ∧ wa.cell? ⟨gp, 7, none⟩ = some (.int .i64 b3) ∧ wa.cell? ⟨gp, 8, none⟩ = some (.string f4) ∧ wa.cell? ⟨gp, 9, none⟩ = some (.int .i64 f5) ∧ wa.cell? ⟨gp, 10, none⟩ = some (.slice Ap f6.length cp) := ⟨(hb.cell lT).trans hHeld.1, (hb.cell lX).trans hHeld.2.1, (hb.cell lX).trans hHeld.2.2.1, (hb.cell lX).trans hHeld.2.2.2.1, (hb.cell l0).trans hHeld.2.2.2.2.1, (hb.cell l0).trans hHeld.2.2.2.2.2.1, (hb.cell l0).trans hHeld.2.2.2.2.2.2.1, (hb.cell l0).trans hHeld.2.2.2.2.2.2.2.1, (hb.cell l0).trans hHeld.2.2.2.2.2.2.2.2.1, (hb.cell l0).trans hHeld.2.2.2.2.2.2.2.2.2.1, (hb.cell l0).trans hHeld.2.2.2.2.2.2.2.2.2.2.1, (hb.cell l0).trans hHeld.2.2.2.2.2.2.2.2.2.2.2.1, (hb.cell l0).trans hHeld.2.2.2.2.2.2.2.2.2.2.2.2.1, (hb.cell l0).trans hHeld.2.2.2.2.2.2.2.2.2.2.2.2.2.1, (hb.cell l0).trans hHeld.2.2.2.2.2.2.2.2.2.2.2.2.2.2⟩
      have n_ := Lib.hid (HNd.out.below hb); clear HNd; have HNd := n_; clear n_; have n_ := Lib.hid (HPd.out.below hb); clear HPd; have HPd := n_; clear n_; have n_ := Lib.hid (HBd.out.trans (hb.mono HBd.out.size)); clear HBd; have HBd := n_; clear n_
      have lT_ := Nat.lt_of_lt_of_le lT hb.size; have lX_ := Nat.lt_of_lt_of_le lX hb.size; clear lT lX; have lT := lT_; have lX := lX_; clear lT_ lX_; have l0_ := Nat.lt_of_lt_of_le l0 hb.size; clear l0; have l0 := l0_; clear l0_
      refine hK.out _ _ ⟨hH_.1, hH_.2.1, hH_.2.2.1, hH_.2.2.2.1, hH_.2.2.2.2.1, hH_.2.2.2.2.2.1, hH_.2.2.2.2.2.2.1, hH_.2.2.2.2.2.2.2.1, hH_.2.2.2.2.2.2.2.2.1, hH_.2.2.2.2.2.2.2.2.2.1, hH_.2.2.2.2.2.2.2.2.2.2.1, hH_.2.2.2.2.2.2.2.2.2.2.2.1, hH_.2.2.2.2.2.2.2.2.2.2.2.2.1, hH_.2.2.2.2.2.2.2.2.2.2.2.2.2.1, hH_.2.2.2.2.2.2.2.2.2.2.2.2.2.2⟩ (fun hHeld => norm_ (by show Act.put _ (some 28) _ = _; simp only [Act.put, nS]; rfl) ?_)
      clear hK K
      refine pA 4 (some 29) rfl rfl (by intro w'; go_simp; with_reducible rfl) (by simp only [Act.put, nS]; rfl) ?_
      refine pA 5 (some 30) rfl rfl (by intro w'; go_simp; with_reducible rfl) (by simp only [Act.put, nS]; rfl) ?_
      refine pA 6 (some 31) rfl rfl (by intro w'; go_simp; with_reducible rfl) (by simp only [Act.put, nS]; rfl) ?_
      refine pA 7 (some 32) rfl rfl (by intro w'; go_simp; with_reducible rfl) (by simp only [Act.put, nS]; rfl) ?_
      refine tA 8 (some 33) rfl rfl (by rintro w' ⟨s0, s1, s2, s3, s4, s5, s6, s7, s8, s9, s10, s11, s12, s13, s14⟩; go_simp; with_reducible rfl) hHeld (by simp only [Act.put, nS]; rfl) ?_
      refine tA 9 (some 34) rfl rfl (by rintro w' ⟨s0, s1, s2, s3, s4, s5, s6, s7, s8, s9, s10, s11, s12, s13, s14⟩; go_simp; with_reducible rfl) hHeld (by simp only [Act.put, nS]; rfl) ?_
      refine oA 10 (some 35) rfl rfl (fun K hK => ?_)
      refine goes_ Try.func33 (by kernel_rfl) rfl #[.pointer (some ⟨Z, 0, none⟩), .agg #[.int .i64 fr, .int .i64 tw, .string s]] (by rfl) rfl rfl (by simp only [List.map_toArray, List.map_cons, List.map_nil]; rfl) ?_
      with_reducible refine (Take_zero HNd.out.z fr tw s).mono ?_
      rintro e wb ⟨rfl, hb2⟩
      refine ⟨_, rfl, ?_⟩
      have hH_ : wb.cell? ⟨T, 1, none⟩ = some (.pointer (some ⟨Z, 0, none⟩)) ∧ wb.cell? ⟨w.heap.size, 0, none⟩ = some (.int .i64 fr) ∧ wb.cell? ⟨w.heap.size, 1, none⟩ = some (.int .i64 tw) ∧ wb.cell? ⟨w.heap.size, 2, none⟩ = some (.string s) ∧ wb.cell? ⟨gp, 0, none⟩ = some (.string f0) ∧ wb.cell? ⟨gp, 1, none⟩ = some (.int .i64 f1) ∧ wb.cell? ⟨gp, 2, none⟩ = some (.int .i64 k1) ∧ wb.cell? ⟨gp, 3, none⟩ = some (.int .i64 k2) ∧ wb.cell? ⟨gp, 4, none⟩ = some (.int .i64 k3) ∧ wb.cell? ⟨gp, 5, none⟩ = some (.int .i64 b1) ∧ wb.cell? ⟨gp, 6, none⟩ = some (.int .i64 b2) ∧ wb.cell? ⟨gp, 7, none⟩ = some (.int .i64 b3) ∧ wb.cell? ⟨gp, 8, none⟩ = some (.string f4) ∧ wb.cell? ⟨gp, 9, none⟩ = some (.int .i64 f5) ∧ wb.cell? ⟨gp, 10, none⟩ = some (.slice Ap f6.length cp) := ⟨(hb2.cell lT).trans hHeld.1, (hb2.cell lX).trans hHeld.2.1, (hb2.cell lX).trans hHeld.2.2.1, (hb2.cell lX).trans hHeld.2.2.2.1, (hb2.cell l0).trans hHeld.2.2.2.2.1, (hb2.cell l0).trans hHeld.2.2.2.2.2.1, (hb2.cell l0).trans hHeld.2.2.2.2.2.2.1, (hb2.cell l0).trans hHeld.2.2.2.2.2.2.2.1, (hb2.cell l0).trans hHeld.2.2.2.2.2.2.2.2.1, (hb2.cell l0).trans hHeld.2.2.2.2.2.2.2.2.2.1, (hb2.cell l0).trans hHeld.2.2.2.2.2.2.2.2.2.2.1, (hb2.cell l0).trans hHeld.2.2.2.2.2.2.2.2.2.2.2.1, (hb2.cell l0).trans hHeld.2.2.2.2.2.2.2.2.2.2.2.2.1, (hb2.cell l0).trans hHeld.2.2.2.2.2.2.2.2.2.2.2.2.2.1, (hb2.cell l0).trans hHeld.2.2.2.2.2.2.2.2.2.2.2.2.2.2⟩
      have n_ := Lib.hid (HNd.out.below hb2); clear HNd; have HNd := n_; clear n_; have n_ := Lib.hid (HPd.out.below hb2); clear HPd; have HPd := n_; clear n_; have n_ := Lib.hid (HBd.out.trans (hb2.mono HBd.out.size)); clear HBd; have HBd := n_; clear n_
      have lT_ := Nat.lt_of_lt_of_le lT hb2.size; have lX_ := Nat.lt_of_lt_of_le lX hb2.size; clear lT lX; have lT := lT_; have lX := lX_; clear lT_ lX_; have l0_ := Nat.lt_of_lt_of_le l0 hb2.size; clear l0; have l0 := l0_; clear l0_
      refine hK.out _ _ ⟨hH_.1, hH_.2.1, hH_.2.2.1, hH_.2.2.2.1, hH_.2.2.2.2.1, hH_.2.2.2.2.2.1, hH_.2.2.2.2.2.2.1, hH_.2.2.2.2.2.2.2.1, hH_.2.2.2.2.2.2.2.2.1, hH_.2.2.2.2.2.2.2.2.2.1, hH_.2.2.2.2.2.2.2.2.2.2.1, hH_.2.2.2.2.2.2.2.2.2.2.2.1, hH_.2.2.2.2.2.2.2.2.2.2.2.2.1, hH_.2.2.2.2.2.2.2.2.2.2.2.2.2.1, hH_.2.2.2.2.2.2.2.2.2.2.2.2.2.2⟩ (fun hHeld => norm_ (by show Act.put _ (some 35) _ = _; simp only [Act.put, nS]; rfl) ?_)
      clear hK K
      refine pA 11 (some 36) rfl rfl (by intro w'; go_simp; with_reducible rfl) (by simp only [Act.put, nS]; rfl) ?_
      refine pA 12 (some 37) rfl rfl (by intro w'; go_simp; with_reducible rfl) (by simp only [Act.put, nS]; rfl) ?_
      refine pA 13 (some 38) rfl rfl (by intro w'; go_simp; with_reducible rfl) (by simp only [Act.put, nS]; rfl) ?_
      refine pA 14 (some 39) rfl rfl (by intro w'; go_simp; with_reducible rfl) (by simp only [Act.put, nS]; rfl) ?_
      refine pA 15 (some 40) rfl rfl (by intro w'; go_simp; with_reducible rfl) (by simp only [Act.put, nS]; rfl) ?_
      refine pA 16 (some 41) rfl rfl (by intro w'; go_simp; with_reducible rfl) (by simp only [Act.put, nS]; rfl) ?_
      refine pA 17 (some 42) rfl rfl (by intro w'; go_simp; with_reducible rfl) (by simp only [Act.put, nS]; rfl) ?_
      refine pA 18 (some 43) rfl rfl (by intro w'; go_simp; with_reducible rfl) (by simp only [Act.put, nS]; rfl) ?_
      refine pA 19 (some 44) rfl rfl (by intro w'; go_simp; with_reducible rfl) (by simp only [Act.put, nS]; rfl) ?_
      refine pA 20 (some 45) rfl rfl (by intro w'; go_simp; with_reducible rfl) (by simp only [Act.put, nS]; rfl) ?_
      refine pA 22 (some 47) rfl rfl (by intro w'; go_simp; with_reducible rfl) (by simp only [Act.put, nS]; rfl) ?_
      refine pA 23 (some 48) rfl rfl (by intro w'; go_simp; with_reducible rfl) (by simp only [Act.put, nS]; rfl) ?_
      refine tA 21 (some 46) rfl rfl (by rintro w' ⟨s0, s1, s2, s3, s4, s5, s6, s7, s8, s9, s10, s11, s12, s13, s14⟩; go_simp; with_reducible rfl) hHeld (by simp only [Act.put, nS]; rfl) ?_
      refine tA 24 (some 49) rfl rfl (by rintro w' ⟨s0, s1, s2, s3, s4, s5, s6, s7, s8, s9, s10, s11, s12, s13, s14⟩; go_simp; with_reducible rfl) hHeld (by simp only [Act.put, nS]; rfl) ?_
      refine oA 25 (some 50) rfl rfl (fun K hK => ?_)
      refine goes_ Try.func31 (by kernel_rfl) rfl #[.pointer (some ⟨Z, 0, none⟩), .agg #[.string f0, .int .i64 f1, .int .i64 k1, .int .i64 k2, .int .i64 k3, .int .i64 b1, .int .i64 b2, .int .i64 b3, .string f4, .int .i64 f5, .slice Ap f6.length cp]] (by rfl) rfl rfl (by simp only [List.map_toArray, List.map_cons, List.map_nil]; rfl) ?_
      with_reducible refine (keep_zero_x HNd.out.z f0 f1 k1 k2 k3 b1 b2 b3 f4 f5 f6 Ap cp).mono ?_
      rintro e wc ⟨rfl, hb3⟩
      refine ⟨_, rfl, ?_⟩
      have hH_ : wc.cell? ⟨T, 1, none⟩ = some (.pointer (some ⟨Z, 0, none⟩)) ∧ wc.cell? ⟨w.heap.size, 0, none⟩ = some (.int .i64 fr) ∧ wc.cell? ⟨w.heap.size, 1, none⟩ = some (.int .i64 tw) ∧ wc.cell? ⟨w.heap.size, 2, none⟩ = some (.string s) ∧ wc.cell? ⟨gp, 0, none⟩ = some (.string f0) ∧ wc.cell? ⟨gp, 1, none⟩ = some (.int .i64 f1) ∧ wc.cell? ⟨gp, 2, none⟩ = some (.int .i64 k1) ∧ wc.cell? ⟨gp, 3, none⟩ = some (.int .i64 k2) ∧ wc.cell? ⟨gp, 4, none⟩ = some (.int .i64 k3) ∧ wc.cell? ⟨gp, 5, none⟩ = some (.int .i64 b1) ∧ wc.cell? ⟨gp, 6, none⟩ = some (.int .i64 b2) ∧ wc.cell? ⟨gp, 7, none⟩ = some (.int .i64 b3) ∧ wc.cell? ⟨gp, 8, none⟩ = some (.string f4) ∧ wc.cell? ⟨gp, 9, none⟩ = some (.int .i64 f5) ∧ wc.cell? ⟨gp, 10, none⟩ = some (.slice Ap f6.length cp) := ⟨(hb3.cell lT).trans hHeld.1, (hb3.cell lX).trans hHeld.2.1, (hb3.cell lX).trans hHeld.2.2.1, (hb3.cell lX).trans hHeld.2.2.2.1, (hb3.cell l0).trans hHeld.2.2.2.2.1, (hb3.cell l0).trans hHeld.2.2.2.2.2.1, (hb3.cell l0).trans hHeld.2.2.2.2.2.2.1, (hb3.cell l0).trans hHeld.2.2.2.2.2.2.2.1, (hb3.cell l0).trans hHeld.2.2.2.2.2.2.2.2.1, (hb3.cell l0).trans hHeld.2.2.2.2.2.2.2.2.2.1, (hb3.cell l0).trans hHeld.2.2.2.2.2.2.2.2.2.2.1, (hb3.cell l0).trans hHeld.2.2.2.2.2.2.2.2.2.2.2.1, (hb3.cell l0).trans hHeld.2.2.2.2.2.2.2.2.2.2.2.2.1, (hb3.cell l0).trans hHeld.2.2.2.2.2.2.2.2.2.2.2.2.2.1, (hb3.cell l0).trans hHeld.2.2.2.2.2.2.2.2.2.2.2.2.2.2⟩
      have n_ := Lib.hid (HNd.out.below hb3); clear HNd; have HNd := n_; clear n_; have n_ := Lib.hid (HPd.out.below hb3); clear HPd; have HPd := n_; clear n_; have n_ := Lib.hid (HBd.out.trans (hb3.mono HBd.out.size)); clear HBd; have HBd := n_; clear n_
      have lT_ := Nat.lt_of_lt_of_le lT hb3.size; have lX_ := Nat.lt_of_lt_of_le lX hb3.size; clear lT lX; have lT := lT_; have lX := lX_; clear lT_ lX_; have l0_ := Nat.lt_of_lt_of_le l0 hb3.size; clear l0; have l0 := l0_; clear l0_
      refine hK.out _ _ ⟨hH_.1, hH_.2.1, hH_.2.2.1, hH_.2.2.2.1, hH_.2.2.2.2.1, hH_.2.2.2.2.2.1, hH_.2.2.2.2.2.2.1, hH_.2.2.2.2.2.2.2.1, hH_.2.2.2.2.2.2.2.2.1, hH_.2.2.2.2.2.2.2.2.2.1, hH_.2.2.2.2.2.2.2.2.2.2.1, hH_.2.2.2.2.2.2.2.2.2.2.2.1, hH_.2.2.2.2.2.2.2.2.2.2.2.2.1, hH_.2.2.2.2.2.2.2.2.2.2.2.2.2.1, hH_.2.2.2.2.2.2.2.2.2.2.2.2.2.2⟩ (fun hHeld => norm_ (by show Act.put _ (some 50) _ = _; simp only [Act.put, nS]; rfl) ?_)
      clear hK K
      refine pA 26 (some 51) rfl rfl (by intro w'; go_simp; with_reducible rfl) (by simp only [Act.put, nS]; rfl) ?_
      refine pA 27 (some 52) rfl rfl (by intro w'; go_simp; with_reducible rfl) (by simp only [Act.put, nS]; rfl) ?_
      refine pA 28 (some 53) rfl rfl (by intro w'; go_simp; with_reducible rfl) (by simp only [Act.put, nS]; rfl) ?_
      refine done_ (by kernel_rfl) ?_
      go_wp2
      cases gk with
      | zero => exact absurd HKQ.out (by omega)
      | succ kk =>
        go_roundg kk
        case measure => omega
        case rel => exact .inr (.inr ⟨rfl, by have := HKQ.out; omega, HBd.out⟩)
  · have HBk := Lib.hid hb
    clear hk hb
    have HP9 := Lib.hid (HP3.out.below HBk.out)
    have HB9 := Lib.hid (HNB.out.below HBk.out).b
    have hnp := HNP.out
    subst hnp
    clear HNB HP3 HBk
    go_upto_region 9 with fail
    go_cut [59] (fun v59 wx => v59 = .bool false ∧ Below wr.heap.size wr wx)
    case first =>
     by_cases hbu : bu < 1
     · have d1 : decide (bu < 1) = true := decide_eq_true hbu
       go_wp2_with (go_at_call 27; refine (New_none 2 bu hbu _).mono ?_; rintro e wn ⟨rfl, hb⟩; have HBn := Lib.hid hb; clear hb)
       go_meet
       exact ⟨rfl, HBn.out⟩
     · have d1 : decide (bu < 1) = false := decide_eq_false hbu
       go_wp2_with (go_at_call 27; refine (New_c 2 bu (by omega) _).mono ?_; rintro e wn ⟨gn, bn, rfl, hb, _, _, _⟩; have HBn := Lib.hid hb; clear hb)
       go_meet
       exact ⟨rfl, HBn.out⟩
    case rest =>
     obtain ⟨rfl, hb⟩ := hcut
     have HPx := Lib.hid ((HP9.out.below hb).bound)
     have HBx := Lib.hid (HB9.out.trans (hb.mono HB9.out.size))
     clear hb HP9 HB9
     go_upto_region 12 with (go_at_call 27; refine (New_c 2 300 (by omega) _).mono ?_; rintro e W5 ⟨g, b, rfl, hb, hg, hb_, hs⟩; have HG := Lib.hid (show wc.heap.size ≤ g ∧ wc.heap.size ≤ b from ⟨hg, hb_⟩); have HS5 := Lib.hid hs; have HP5 := Lib.hid (HPx.out.below hb); have HB5 := Lib.hid (HBx.out.trans (hb.mono HBx.out.size)); clear hb hg hb_ hs)
     have HQ := Lib.hid (show ∀ k, w.heap.size ≤ k ∧ k < wc.heap.size → k ≠ g ∧ k ≠ b from fun k hk => ⟨by have := HG.out.1; omega, by have := HG.out.2; omega⟩)
     have HGW := Lib.hid (show w.heap.size ≤ g ∧ w.heap.size ≤ b from ⟨Nat.le_trans HBx.out.size HG.out.1, Nat.le_trans HBx.out.size HG.out.2⟩)
     have HFEW := Lib.hid HP5.out.few
     have HMADE := Lib.hid HP5.out.made
     clear HPx
     go_upto_block 2 with fail
     go_wp2
     go_loopg [12] (P.length + 1) (fun kq v12 w' => ∃ j : Nat, v12 = .int .i64 (j : Int) ∧ j + kq = P.length + 1 ∧ j ≤ P.length ∧ PatRow w' (fun k => w.heap.size ≤ k ∧ k < wc.heap.size) B d P ∧ Below w.heap.size w w' ∧ RS w' g b 2 300 j (keepAll 300 [] (P.take j)))
     case atStart => exact ⟨0, rfl, by omega, by omega, HP5.out, HB5.out, HS5.out⟩
     case round =>
      clear HP5 HB5 HS5 HBx
      obtain ⟨j, rfl, hj, hjl, hp, hb, hs⟩ := hrel
      have HJ := Lib.hid (show j + gk = P.length + 1 ∧ j ≤ P.length from ⟨hj, hjl⟩)
      have HPR := Lib.hid hp
      have HBR := Lib.hid hb
      have HSR := Lib.hid hs
      by_cases c0 : j < P.length
      · have d1 : decide ((j : Int) < (P.length : Int)) = true := decide_eq_true (by omega)
        obtain ⟨x, hx⟩ : ∃ x, P[j]? = some x := ⟨P[j], List.getElem?_eq_getElem c0⟩
        obtain ⟨ga, hga⟩ := HPR.out.plain (by omega)
        subst hga
        obtain ⟨A, c, hrg, hcap, hC⟩ := elem55C HPR.out.c hx
        have hpk := made_pk (HMADE.out x (List.mem_of_getElem? hx))
        have hsn := keepAll_snoc 300 [] P j x hx
        obtain ⟨f0, f1, ⟨k1, k2, k3⟩, ⟨b1, b2, b3⟩, f4, f5, f6⟩ := x
        simp only at hrg hcap hC
        have HX := Lib.hid hpk
        have HSN := Lib.hid hsn
        have HJL := Lib.hid c0
        have HRG := Lib.hid hrg
        have HCAP := Lib.hid hcap
        have HCC := Lib.hid hC
        have i1 : ((0 : Int) ≤ (j : Int)) = True := eq_true (by omega)
        have i2 : ((j : Int) < (P.length : Int)) = True := eq_true (by omega)
        have e1 : wrap64 ((j : Int) + 1) = ((j + 1 : Nat) : Int) := by rw [rl64 (by have := HFEW.out; omega) (by have := HFEW.out; omega)]; omega
        clear hx hrg hcap hC hpk hsn hp hb hs hj hjl c0
        go_wp2_with (first
         | (refine wpList_load_mid rfl 55 (.tmp 72) rfl ga (j * 11) rfl (#[.string f0, .int .i64 f1, .int .i64 k1, .int .i64 k2, .int .i64 k3, .int .i64 b1, .int .i64 b2, .int .i64 b3, .string f4, .int .i64 f5, .slice A f6.length c] : Array Value).toList _ HRG.out Try.underlying55 rfl (inf11 rfl) ?_)
         | (go_at_call 31; refine (keep_x HSR.out (by omega) (by omega) (by have := HFEW.out; have := HJ.out; omega) f0 f1 k1 k2 k3 b1 b2 b3 f4 f5 f6 HX.out A c HCC.out HCAP.out).mono ?_; rintro e w3 ⟨rfl, ho3, hs3⟩; have HO3 := Lib.hid ho3; have HS3 := Lib.hid hs3; clear ho3 hs3))
        cases gk with
        | zero => exact absurd HJ.out (by omega)
        | succ kk =>
          go_roundg kk
          case measure => omega
          case rel => exact ⟨j + 1, by first | rw [e1] | rfl, by have := HJ.out; omega, by have := HJL.out; omega, HPR.out.only HO3.out HQ.out, Only.below HBR.out HO3.out HGW.out.1 HGW.out.2 HBR.out.size, by rw [HSN.out]; exact HS3.out⟩
      · have d1 : decide ((j : Int) < (P.length : Int)) = false := decide_eq_false (by omega)
        have hje : j = P.length := by omega
        subst hje
        rw [List.take_length] at hs
        have HLM := Lib.hid (keepAll_made 300 P [] HMADE.out (fun p hp => absurd hp (by simp)))
        obtain ⟨L, hL⟩ : ∃ L, L = keepAll 300 [] P := ⟨_, rfl⟩
        rw [← hL] at HLM hs
        have HS := Lib.hid hs
        have HGB := Lib.hid hs.gb
        have HPM := Lib.hid (all_perm L HLM.out)
        have HL9 := Lib.hid (show (allTo L 4).length ≤ 9000 ∧ ∀ p ∈ allTo L 4, p.f6.length ≤ 9000 from ⟨by rw [HPM.out.length_eq]; have := hs.oks.2.1; have := HFEW.out; omega, fun p hp => by have := (HLM.out p (HPM.out.mem_iff.1 hp)).f6; omega⟩)
        clear hL hs hp hb hj hjl c0 HSR
        go_upto_region 19 with (go_at_call 38; refine (all_c HS.out (by omega) (by omega) HFEW.out HLM.out).mono ?_; rintro e W7 ⟨A7, c7, rfl, h1, h2, h3, hb⟩; have HA7 := Lib.hid h2; have HF7 := Lib.hid h3; have HS7 := Lib.hid (HS.out.below hb); have HB7 := Lib.hid (HBR.out.trans (hb.mono HBR.out.size)); clear h1 h2 h3 hb)
        go_upto_region 20 with (go_at_call 38; refine (all_c HS7.out (by omega) (by omega) HFEW.out HLM.out).mono ?_; rintro e W8 ⟨A8, c8, rfl, h1, h2, h3, hb⟩; have HA8 := Lib.hid h2; have HF8 := Lib.hid h3; have HS8 := Lib.hid (HS7.out.below hb); have HB8 := Lib.hid (HB7.out.trans (hb.mono HB7.out.size)); have HC7 := Lib.hid (Kd.C_below (Kd.F_now HF7.out) hb); clear h1 h2 h3 hb)
        clear HF7 HS7 HS
        obtain ⟨nA, hnA⟩ : ∃ n, n = (allTo L 4).length := ⟨_, rfl⟩
        have HNA := Lib.hid hnA
        rw [← hnA]
        clear hnA
        go_wp2_with (first
         | (go_at_call 24; refine (show Calls _ _ #[.slice A7 nA c7, .slice A8 nA c8] W8 _ from by rw [HNA.out]; exact sameP_self (allTo L 4) A7 c7 A8 c8 _ HC7.out HA7.out (Kd.F_now HF8.out) HA8.out HL9.out.1 HL9.out.2).mono ?_; rintro e W9 ⟨rfl, hb⟩; have HS9 := Lib.hid (HS8.out.below hb); have HB9 := Lib.hid (HB8.out.trans (hb.mono HB8.out.size)); clear hb)
         | (go_at_call 35; refine (show Calls _ _ #[.pointer (some ⟨g, 0, none⟩)] W9 (fun e w' => e = .returned (.int .i64 (nA : Int)) ∧ Below W9.heap.size W9 w') from by rw [HNA.out]; exact many_all HS9.out HLM.out).mono ?_; rintro e W10 ⟨rfl, hb⟩; have HB10 := Lib.hid (HB9.out.trans (hb.mono HB9.out.size)); clear hb))
        go_ret
        exact ⟨rfl, HB10.out⟩
end Go.Proofs.Ythokkeljfdfppaa.Rl
