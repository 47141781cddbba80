/- The reference's relay: Keep. -/
import Derived.Test.YthokkeljfdfppaaMgU
import Derived.Test.YthokkeljfdfppaaMgK
import Derived.Test.YthokkeljfdfppaaPby5
set_option linter.unusedVariables false
set_option linter.unusedSimpArgs false
namespace Go.Proofs.Ythokkeljfdfppaa.Rl
open Go.RowKit Go.Proofs.YthokkeljfdfppaaW.PrintWords Go.Proofs.YthokkeljfdfppaaW.PrintLast Go.Proofs.YthokkeljfdfppaaW.PrintMore Go.Proofs.Ythokkeljfdfppaa.Pb Go.Proofs.Ythokkeljfdfppaa.Gw Go.Proofs.Ythokkeljfdfppaa.Pure
theorem zbb5 {p : Prop} (h : p := by simp only [List.map_toArray, List.map_cons, List.map_nil]; rfl) : p := h
theorem zbb4 {p : Prop} (h : p := by rintro w' ⟨s0, s1, s2, s3, s4, s5, s6, s7, s8, s9, s10, s11⟩; go_simp; with_reducible rfl) : p := h
theorem zbb3 {p : Prop} (h : p := by show Act.put _ (some _) _ = _; simp only [Act.put, nS]; rfl) : p := h
theorem zbb2 {p : Prop} (h : p := by rintro w' ⟨s0, s1, s2, s3, s4, s5, s6, s7, s8, s9, s10, s11, s12, s13, s14, s15, s16, s17, s18, s19, s20, s21, s22⟩; go_simp; with_reducible rfl) : p := h
theorem zbb1 {p : Prop} (h : p := by intro w'; go_simp; with_reducible rfl) : p := h
theorem zbb0 {p : Prop} (h : p := by simp only [Act.put, nS]; rfl) : p := h
theorem zbbp {w v : World} {p : Addr} {x : Value} (h : Below w.heap.size w v) (hx : w.cell? p = some x) : v.cell? p = some x := (h.cell (World.block_lt_of_cell? _ _ hx)).trans hx
theorem rangeAt_below {w w1 : World} {g o : Nat} {cs : List Value} (h : w.rangeAt g o cs) (hb : Below w.heap.size w w1) : w1.rangeAt g o cs := fun i u hu => (hb.cell (World.block_lt_of_cell? _ _ (h i u hu))).trans (h i u hu)
theorem rangeAt_sub {w : World} {g o : Nat} {cs : List Value} (h : w.rangeAt g o cs) (a : Nat) (ds : List Value) (hd : ∀ i u, ds[i]? = some u → cs[a + i]? = some u) : w.rangeAt g (o + a) ds := fun i u hu => by
 have := h (a + i) u (hd i u hu)
 rw [← Nat.add_assoc] at this
 exact this
theorem elemP {ga n : Nat} {w : World} {X : List Kp} {j : Nat} {x : Kp} (hC : Kd.C kPp w (some ⟨ga, 0, none⟩) n X) (hx : X[j]? = some x) : w.rangeAt ga (j * 11) (pcells x.p x.A x.c) := by
 obtain ⟨hn, _, h3⟩ := hC
 have hj : j < X.length := (List.getElem?_eq_some_iff.1 hx).1
 obtain ⟨ad, e1, h4⟩ := h3 (by omega)
 cases e1
 obtain ⟨cs, h5, h6, h7⟩ := h4 j x hx
 have h6 : cs = pcells x.p x.A x.c := h6
 subst h6
 intro i u hu
 have := h7 i u hu
 rw [Addr.add_mid, Nat.zero_add] at this
 exact this
theorem RefX.goodC {w : World} {g : Nat} {no bytes : Int} {Q : Nat → Prop} {X l : List Kp} (h : RefX w g no bytes Q X) (hl : ∀ y ∈ l, y ∈ X) : ∀ x ∈ l, x.p.f6.length ≤ x.c ∧ Kd.C Kd.string w x.A x.p.f6.length x.p.f6 := fun x hx => ⟨(h.good x (hl x hx)).1, Kd.F_now (h.good x (hl x hx)).2.1⟩
theorem refSum_n (k : Nat) (A : Option Addr) (c : Nat) (X : List Kp) (r : Int) (w : World) (hr : Kd.C k55 w A (X.map Kp.p).length (X.map Kp.p)) (hc : X.length ≤ c) (h : abugidaref35_sum.f k (X.map Kp.p) = some r) :
 Calls Try.prog 76 #[.slice A X.length c] w fun e w' => e = .returned (.int .i64 r) ∧ Below w.heap.size w w' := by
 have hc' : (X.map Kp.p).length ≤ c := by rw [List.length_map]; exact hc
 rw [← List.length_map (f := Kp.p)]
 exact abugidaref35_sum.calls k A c _ r w hr hc' h
theorem sumz_wraps (s z t : Int) (h0 : 0 ≤ s ∧ s ≤ 9000000) (h1 : 0 ≤ z ∧ z ≤ 9000) (h2 : t = s + z) : wrap64 (s + z) = t ∧ IntKind.i64.wrap (s + z) = t := by
 constructor
 · unfold wrap64; omega
 · rw [IntKind.wrap_i64]; omega
theorem fitP_step {l : List S55} {room : Int} (h : room < sumP l) (h0 : 0 ≤ room) : 0 < l.length ∧ fitP (l.drop 1) room = fitP l room := by
 cases l with
 | nil => simp [sumP] at h; omega
 | cons x l => exact ⟨by simp, by rw [List.drop_one, List.tail_cons, fitP, if_pos h]⟩
theorem fitP_stop {l : List S55} {room : Int} (h : ¬ room < sumP l) : fitP l room = l := by
 cases l with
 | nil => rfl
 | cons x l => rw [fitP, if_neg h]
theorem cut1 (A : Option Addr) (n c : Nat) (h0 : 0 < n) (hc : n ≤ c) : ∃ A' : Option Addr, (∀ W : World, (Instr.slice 42 (.slice A n c) (some (.int .i64 1)) none none).run Try.prog W = .ok (.slice A' (n - 1) (c - 1)) W) ∧ ∀ (w : World) (X : List Kp), X.length = n → Kd.C kPp w A n X → Kd.C kPp w A' (n - 1) (X.drop 1) := by
 refine ⟨if c = 1 then A else A.map (·.add (1 * 11)), fun W => ?_, fun w X hX hC => ?_⟩
 · have hel : Try.prog.elem 42 = 55 := by kernel_rfl
   obtain ⟨i, hi, h3⟩ := Option.map_eq_some_iff.1 info55'
   simp only [Prod.mk.injEq] at h3
   have hs : i.size = 11 := h3.2.1
   have hu : Try.prog.underlying 42 = some (.slice (Try.prog.elem 42)) := by rw [hel]; exact und42
   rw [run_slice_l W 42 A n c hu .i64 1 (by omega) (by omega), hel]
   simp [sizeOf, typeInfo, hi, hs, sliced, Result.andThen]
 · subst hX
   have := Kd.C_drop (m := 1) (c := c) hC h0 hc
   rw [List.length_drop] at this
   exact this
theorem copied_n (b0 : ByteArray) (b1 b2 b3 b4 b5 b6 b7 : Int) (b8 : ByteArray) (b9 : Int) (b10 : List ByteArray) (A : Option Addr) (c : Nat) (w : World) (hC : Kd.C Kd.string w A b10.length b10) (hc : b10.length ≤ c) (hf : b10.length ≤ 1000) :
 Calls Try.prog 77 #[.agg #[.string b0, .int .i64 b1, .int .i64 b2, .int .i64 b3, .int .i64 b4, .int .i64 b5, .int .i64 b6, .int .i64 b7, .string b8, .int .i64 b9, .slice A b10.length c]] w fun e w' => ∃ B d, e = .returned (.agg #[.string b0, .int .i64 b1, .int .i64 b2, .int .i64 b3, .int .i64 b4, .int .i64 b5, .int .i64 b6, .int .i64 b7, .string b8, .int .i64 b9, .slice B b10.length d]) ∧ b10.length ≤ d ∧ Kd.F Kd.string w' (fun k => w.heap.size ≤ k) B b10.length b10 ∧ Below w.heap.size w w' := by
 refine (abugidaref35_Copied.calls b0 b1 b2 b3 b4 b5 b6 b7 b8 b9 A c b10 b0 b1 b2 b3 b4 b5 b6 b7 b8 b9 b10 w hC hc (by unfold abugidaref35_Copied.f; simp; omega)).mono ?_
 rintro e w' ⟨v, rfl, hr, hb⟩
 obtain ⟨B, d, rfl⟩ := Kd.R_slice hr
 exact ⟨B, d, rfl, (Kd.R_reads' hr).2.1, R_F (Kd.R_mono (Kd.R_bound hr) (fun k hk => hk.2.1)), hb⟩
set_option maxHeartbeats 16000000 in
set_option maxRecDepth 100000 in
theorem refKeep_x {w : World} {g : Nat} {no bytes : Int} {Q : Nat → Prop} {X : List Kp} (h : RefX w g no bytes Q X) (h0 : 0 < bytes) (hbig : bytes ≤ 1099511627776) (hX : X.length ≤ 1000) (hQ : ∀ k, w.heap.size ≤ k → Q k) (hg : ∀ k, Q k → k ≠ g) (b0 : ByteArray) (b1 b2 b3 b4 b5 b6 b7 : Int) (b8 : ByteArray) (b9 : Int) (b10 : List ByteArray) (hp : PK ⟨b0, b1, ⟨b2, b3, b4⟩, ⟨b5, b6, b7⟩, b8, b9, b10⟩) (A : Option Addr) (c : Nat) (hr : Kd.C Kd.string w A b10.length b10) (hc : b10.length ≤ c) :
 Calls Try.prog 32 #[.pointer (some ⟨g, 0, none⟩), .agg #[.string b0, .int .i64 b1, .int .i64 b2, .int .i64 b3, .int .i64 b4, .int .i64 b5, .int .i64 b6, .int .i64 b7, .string b8, .int .i64 b9, .slice A b10.length c]] w fun e w' => ∃ X', e = .returned (.int .i64 (keepP bytes (X.map Kp.p) ⟨b0, b1, ⟨b2, b3, b4⟩, ⟨b5, b6, b7⟩, b8, b9, b10⟩).1) ∧ X'.map Kp.p = (keepP bytes (X.map Kp.p) ⟨b0, b1, ⟨b2, b3, b4⟩, ⟨b5, b6, b7⟩, b8, b9, b10⟩).2 ∧ RefX w' g no bytes Q X' ∧ Only g g w w' := by
 have HX0 := Lib.hid (blk_new w (.cells #[.string b0, .int .i64 b1, .int .i64 b2, .int .i64 b3, .int .i64 b4, .int .i64 b5, .int .i64 b6, .int .i64 b7, .string b8, .int .i64 b9, .slice A b10.length c] 55 (0, 0)))
 have HB0 := Lib.hid (below_alloc (Below.refl w.heap.size w) (.cells #[.string b0, .int .i64 b1, .int .i64 b2, .int .i64 b3, .int .i64 b4, .int .i64 b5, .int .i64 b6, .int .i64 b7, .string b8, .int .i64 b9, .slice A b10.length c] 55 (0, 0)))
 have HR := Lib.hid (h.below HB0.out)
 obtain ⟨Ax, cx, hcell, hcx, hpx, hFx⟩ := (h.below HB0.out).cell
 have q1 := ck hcell 1 _ rfl
 have e1 : (bytes == 0) = false := beq_eq_false_iff_ne.mpr (by omega)
 go_enter Try.func32, Try.ntmps32
 obtain ⟨ks, hks⟩ := (refSize_ev ⟨b0, b1, ⟨b2, b3, b4⟩, ⟨b5, b6, b7⟩, b8, b9, b10⟩ hp.ok).rounds
 have HKS := Lib.hid hks
 have HPK := Lib.hid hp
 have HRC := Lib.hid hr
 have HCC := Lib.hid hc
 have HBY := Lib.hid (show 0 < bytes ∧ bytes ≤ 1099511627776 ∧ X.length ≤ 1000 from ⟨h0, hbig, hX⟩)
 have HQQ := Lib.hid hQ
 have HGG := Lib.hid hg
 clear h h0 hbig hX hr hc hp hcell hcx hpx hFx hks hQ hg
 go_upto_region 3 with fail
 obtain ⟨W1, hW1⟩ : ∃ W, W = w.alloc (.cells #[.string b0, .int .i64 b1, .int .i64 b2, .int .i64 b3, .int .i64 b4, .int .i64 b5, .int .i64 b6, .int .i64 b7, .string b8, .int .i64 b9, .slice A b10.length c] 55 (0, 0)) := ⟨_, rfl⟩
 rw [← hW1] at HX0 HB0 HR q1
 simp only [← hW1]
 clear hW1
 have HXd := Lib.hid (show W1.drew.heap[w.heap.size]? = _ from HX0.out)
 have HRd := Lib.hid (HR.out.below (below_drew (Below.refl _ _)))
 have HBd := Lib.hid HB0.out.drew
 have y1 : W1.drew.cell? ⟨g, 1, none⟩ = some (.int .i64 bytes) := q1
 clear q1 HX0 HR HB0
 have x0 := ck HXd.out 0 _ rfl
 have x1 := ck HXd.out 1 _ rfl
 have x2 := ck HXd.out 2 _ rfl
 have x3 := ck HXd.out 3 _ rfl
 have x4 := ck HXd.out 4 _ rfl
 have x5 := ck HXd.out 5 _ rfl
 have x6 := ck HXd.out 6 _ rfl
 have x7 := ck HXd.out 7 _ rfl
 have x8 := ck HXd.out 8 _ rfl
 have x9 := ck HXd.out 9 _ rfl
 have x10 := ck HXd.out 10 _ rfl
 refine start_ (n := 7) (S := fun w' => w'.cell? ⟨w.heap.size, 0, none⟩ = some (.string b0) ∧ w'.cell? ⟨w.heap.size, 1, none⟩ = some (.int .i64 b1) ∧ w'.cell? ⟨w.heap.size, 2, none⟩ = some (.int .i64 b2) ∧ w'.cell? ⟨w.heap.size, 3, none⟩ = some (.int .i64 b3) ∧ w'.cell? ⟨w.heap.size, 4, none⟩ = some (.int .i64 b4) ∧ w'.cell? ⟨w.heap.size, 5, none⟩ = some (.int .i64 b5) ∧ w'.cell? ⟨w.heap.size, 6, none⟩ = some (.int .i64 b6) ∧ w'.cell? ⟨w.heap.size, 7, none⟩ = some (.int .i64 b7) ∧ w'.cell? ⟨w.heap.size, 8, none⟩ = some (.string b8) ∧ w'.cell? ⟨w.heap.size, 9, none⟩ = some (.int .i64 b9) ∧ w'.cell? ⟨w.heap.size, 10, none⟩ = some (.slice A b10.length c) ∧ w'.cell? ⟨g, 1, none⟩ = some (.int .i64 bytes)) (ds := []) #[false, false, false, false, false, false, false] (by kernel_rfl) rfl rfl ⟨x0, x1, x2, x3, x4, x5, x6, x7, x8, x9, x10, y1⟩ (fun hHeld => ?_)
 generalize W1.drew = wd at HXd HRd HBd x0 x1 x2 x3 x4 x5 x6 x7 x8 x9 x10 y1 hHeld ⊢; have HX3 := Lib.hid (Below.refl wd.heap.size wd)
 refine pA 2 (some 18) rfl rfl zbb1 zbb0 ?_
 refine pA 3 (some 19) rfl rfl zbb1 zbb0 ?_
 refine pA 4 (some 20) rfl rfl zbb1 zbb0 ?_
 refine tA 0 (some 16) rfl rfl zbb4 hHeld zbb0 ?_
 refine tA 5 (some 21) rfl rfl zbb4 hHeld zbb0 ?_
 refine oA 1 (some 17) rfl rfl (fun K hK => ?_)
 refine goes_ Try.func75 (by kernel_rfl) rfl #[.agg #[.string b0, .int .i64 b1, .int .i64 b2, .int .i64 b3, .int .i64 b4, .int .i64 b5, .int .i64 b6, .int .i64 b7, .string b8, .int .i64 b9, .slice A b10.length c]] (by rfl) rfl rfl zbb5 ?_
 with_reducible refine (abugidaref35_size.calls ks b0 b1 b2 b3 b4 b5 b6 b7 b8 b9 A c b10 _ _ (Kd.C_below HRC.out (HBd.out.trans (HX3.out.mono HBd.out.size))) HCC.out HKS.out).mono ?_
 rintro e wx ⟨rfl, hb⟩
 refine ⟨_, rfl, ?_⟩
 have n_ := Lib.hid (HX3.out.trans (hb.mono HX3.out.size)); clear HX3; have HX3 := n_; clear n_ hb
 refine hK.out _ _ ⟨zbbp HX3.out x0, zbbp HX3.out x1, zbbp HX3.out x2, zbbp HX3.out x3, zbbp HX3.out x4, zbbp HX3.out x5, zbbp HX3.out x6, zbbp HX3.out x7, zbbp HX3.out x8, zbbp HX3.out x9, zbbp HX3.out x10, zbbp HX3.out y1⟩ (fun hHeld => norm_ zbb3 ?_)
 clear hK K
 refine pA 6 (some 22) rfl rfl zbb1 zbb0 ?_
 refine done_ (by kernel_rfl) ?_
 obtain ⟨P0, hP0⟩ : ∃ x : S55, x = ⟨b0, b1, ⟨b2, b3, b4⟩, ⟨b5, b6, b7⟩, b8, b9, b10⟩ := ⟨_, rfl⟩
 obtain ⟨zp, hzp⟩ : ∃ z, z = szP ⟨b0, b1, ⟨b2, b3, b4⟩, ⟨b5, b6, b7⟩, b8, b9, b10⟩ := ⟨_, rfl⟩
 rw [← hzp]
 have HZP := Lib.hid hzp
 have HP0 := Lib.hid hP0
 have HKZ := Lib.hid (show abugidaref35_size.f ks b0 b1 b2 b3 b4 b5 b6 b7 b8 b9 b10 = some zp from by rw [hzp]; exact HKS.out)
 have HR1 := Lib.hid (HRd.out.below HX3.out)
 have HX1 := Lib.hid (blk_below HXd.out HX3.out)
 have HB1 := Lib.hid (HBd.out.trans (HX3.out.mono HBd.out.size))
 clear hHeld HRd HXd HBd HX3 hzp hP0 e1 x0 x1 x2 x3 x4 x5 x6 x7 x8 x9 x10 y1
 by_cases hbz : bytes < zp
 · have d1 : decide (bytes < zp) = true := decide_eq_true hbz
   have hk : keepP bytes (X.map Kp.p) ⟨b0, b1, ⟨b2, b3, b4⟩, ⟨b5, b6, b7⟩, b8, b9, b10⟩ = (50, X.map Kp.p) := by unfold keepP; rw [if_pos (by rw [← HZP.out]; exact hbz)]
   have HK := Lib.hid hk
   clear hk
   go_wp2
   go_ret
   rw [HK.out]
   exact ⟨rfl, X, rfl, HR1.out, Only.of_below HB1.out⟩
 · have d1 : decide (bytes < zp) = false := decide_eq_false hbz
   have HNB := Lib.hid hbz
   clear hbz
   obtain ⟨Ax, cx, hcell, hcx, hpx, hFx⟩ := HR1.out.cell
   have HCELL := Lib.hid hcell
   have HPX := Lib.hid hpx
   have HFX := Lib.hid hFx
   clear hcell hcx hpx hFx
   go_upto_block 0 with fail
   go_wp2
   go_loopg [5, 6] (X.length + 1) (fun kq v5 v6 w' => ∃ (j : Nat) (l5 : List Kp), v6 = .int .i64 (j : Int) ∧ j + kq = X.length + 1 ∧ j ≤ X.length ∧ Below wx.heap.size wx w' ∧ Kd.R kPp 55 w' wx.heap.size (fun _ => True) v5 l5 ∧ l5 = others (nmOf P0) (X.take j))
   case atStart => exact ⟨0, [], rfl, by omega, by omega, Below.refl _ _, Kd.R_nil _ _ _ _ _, rfl⟩
   case round =>
    obtain ⟨j, l5, rfl, hj, hjl, hb, hr, hl5⟩ := hrel
    have HBr := Lib.hid hb
    have HRr := Lib.hid hr
    have HL5 := Lib.hid hl5
    have HJ := Lib.hid (show j + gk = X.length + 1 ∧ j ≤ X.length from ⟨hj, hjl⟩)
    have y2 := ck (blk_below HCELL.out hb) 2 _ rfl
    by_cases c0 : j < X.length
    · have d2 : decide ((j : Int) < (X.length : Int)) = true := decide_eq_true (by omega)
      obtain ⟨ga, rfl⟩ := HPX.out (by omega)
      obtain ⟨x, hx⟩ : ∃ x, X[j]? = some x := ⟨X[j], List.getElem?_eq_getElem c0⟩
      have hrg := elemP (Kd.F_now (Kd.F_below HFX.out HBr.out)) hx
      have hsn := filter_snoc (fun x : Kp => decide (x.nm ≠ nmOf P0)) X j x hx
      obtain ⟨x0, hx0⟩ : ∃ y, y = x := ⟨_, rfl⟩
      have HX0 := Lib.hid hx0
      obtain ⟨⟨a0, a1, ⟨a2, a3, a4⟩, ⟨a5, a6, a7⟩, a8, a9, a10⟩, aA, ac, asz, atm⟩ := x
      simp only [pcells] at hrg
      have HRG := Lib.hid hrg
      have HSN := Lib.hid hsn
      have i1 : ((0 : Int) ≤ (j : Int)) = True := eq_true (by omega)
      have i2 : ((j : Int) < (X.length : Int)) = True := eq_true (by omega)
      have HE1 := Lib.hid (show wrap64 ((j : Int) + 1) = ((j + 1 : Nat) : Int) from by rw [rl64 (by have := HBY.out; omega) (by have := HBY.out; omega)]; omega)
      have HBXr := Lib.hid (blk_below HX1.out HBr.out)
      clear hx hrg hsn hb hr hj hjl hl5 hx0
      go_upto_region 9 with fail
      have HBd := Lib.hid HBr.out.drew
      have HRGd := Lib.hid (show wr.drew.rangeAt ga (j * 11) _ from HRG.out)
      have HBXd := Lib.hid (show wr.drew.heap[w.heap.size]? = _ from HBXr.out)
      have HRd := Lib.hid (Kd.R_drew HRr.out)
      have y2 : wr.drew.cell? ⟨g, 2, none⟩ = some (.slice (some ⟨ga, 0, none⟩) X.length cx) := y2
      clear HBr HRG HBXr HRr
      have x0 := ck HBXd.out 0 _ rfl
      have x1 := ck HBXd.out 1 _ rfl
      have x2 := ck HBXd.out 2 _ rfl
      have x3 := ck HBXd.out 3 _ rfl
      have x4 := ck HBXd.out 4 _ rfl
      have x5 := ck HBXd.out 5 _ rfl
      have x6 := ck HBXd.out 6 _ rfl
      have x7 := ck HBXd.out 7 _ rfl
      have x8 := ck HBXd.out 8 _ rfl
      have x9 := ck HBXd.out 9 _ rfl
      have x10 := ck HBXd.out 10 _ rfl
      have z0 := HRGd.out 0 _ rfl
      have z1 := HRGd.out 1 _ rfl
      have z2 := HRGd.out 2 _ rfl
      have z3 := HRGd.out 3 _ rfl
      have z4 := HRGd.out 4 _ rfl
      have z5 := HRGd.out 5 _ rfl
      have z6 := HRGd.out 6 _ rfl
      have z7 := HRGd.out 7 _ rfl
      have z8 := HRGd.out 8 _ rfl
      have z9 := HRGd.out 9 _ rfl
      have z10 := HRGd.out 10 _ rfl
      rw [Nat.add_zero] at z0
      cases cN : eqN (⟨a0, a1, ⟨a2, a3, a4⟩, ⟨a5, a6, a7⟩, a8, a9, a10⟩ : S55) ⟨b0, b1, ⟨b2, b3, b4⟩, ⟨b5, b6, b7⟩, b8, b9, b10⟩ with
      | true =>
        have HCN := Lib.hid cN
        clear cN
        refine start_ (n := 10) (S := fun w' => w'.cell? ⟨w.heap.size, 0, none⟩ = some (.string b0) ∧ w'.cell? ⟨w.heap.size, 1, none⟩ = some (.int .i64 b1) ∧ w'.cell? ⟨w.heap.size, 2, none⟩ = some (.int .i64 b2) ∧ w'.cell? ⟨w.heap.size, 3, none⟩ = some (.int .i64 b3) ∧ w'.cell? ⟨w.heap.size, 4, none⟩ = some (.int .i64 b4) ∧ w'.cell? ⟨w.heap.size, 5, none⟩ = some (.int .i64 b5) ∧ w'.cell? ⟨w.heap.size, 6, none⟩ = some (.int .i64 b6) ∧ w'.cell? ⟨w.heap.size, 7, none⟩ = some (.int .i64 b7) ∧ w'.cell? ⟨w.heap.size, 8, none⟩ = some (.string b8) ∧ w'.cell? ⟨w.heap.size, 9, none⟩ = some (.int .i64 b9) ∧ w'.cell? ⟨w.heap.size, 10, none⟩ = some (.slice A b10.length c) ∧ w'.cell? ⟨ga, j * 11, none⟩ = some (.string a0) ∧ w'.cell? ⟨ga, j * 11 + 1, none⟩ = some (.int .i64 a1) ∧ w'.cell? ⟨ga, j * 11 + 2, none⟩ = some (.int .i64 a2) ∧ w'.cell? ⟨ga, j * 11 + 3, none⟩ = some (.int .i64 a3) ∧ w'.cell? ⟨ga, j * 11 + 4, none⟩ = some (.int .i64 a4) ∧ w'.cell? ⟨ga, j * 11 + 5, none⟩ = some (.int .i64 a5) ∧ w'.cell? ⟨ga, j * 11 + 6, none⟩ = some (.int .i64 a6) ∧ w'.cell? ⟨ga, j * 11 + 7, none⟩ = some (.int .i64 a7) ∧ w'.cell? ⟨ga, j * 11 + 8, none⟩ = some (.string a8) ∧ w'.cell? ⟨ga, j * 11 + 9, none⟩ = some (.int .i64 a9) ∧ w'.cell? ⟨ga, j * 11 + 10, none⟩ = some (.slice aA a10.length ac) ∧ w'.cell? ⟨g, 2, none⟩ = some (.slice (some ⟨ga, 0, none⟩) X.length cx)) (ds := []) #[false, false, false, false, false, false, false, false, false, false] (by kernel_rfl) rfl rfl ⟨x0, x1, x2, x3, x4, x5, x6, x7, x8, x9, x10, z0, z1, z2, z3, z4, z5, z6, z7, z8, z9, z10, y2⟩ (fun hHeld => ?_)
        generalize wr.drew = wd at HBd HRGd HBXd HRd x0 x1 x2 x3 x4 x5 x6 x7 x8 x9 x10 z0 z1 z2 z3 z4 z5 z6 z7 z8 z9 z10 y2 hHeld ⊢; have HX3 := Lib.hid (Below.refl wd.heap.size wd)
        refine pA 0 (some 32) rfl rfl zbb1 zbb0 ?_
        refine pA 1 (some 33) rfl rfl zbb1 zbb0 ?_
        refine pA 2 (some 34) rfl rfl zbb1 zbb0 ?_
        refine pA 4 (some 36) rfl rfl zbb1 zbb0 ?_
        refine tA 3 (some 35) rfl rfl zbb2 hHeld zbb0 ?_
        refine pA 5 (some 37) rfl rfl zbb1 zbb0 ?_
        refine tA 6 (some 38) rfl rfl zbb2 hHeld zbb0 ?_
        refine tA 7 (some 39) rfl rfl zbb2 hHeld zbb0 ?_
        refine oA 8 (some 40) rfl rfl (fun K hK => ?_)
        refine goes_ Try.func40 (by kernel_rfl) rfl #[.agg #[.string a0, .int .i64 a1, .int .i64 a2, .int .i64 a3, .int .i64 a4, .int .i64 a5, .int .i64 a6, .int .i64 a7, .string a8, .int .i64 a9, .slice aA a10.length ac], .agg #[.string b0, .int .i64 b1, .int .i64 b2, .int .i64 b3, .int .i64 b4, .int .i64 b5, .int .i64 b6, .int .i64 b7, .string b8, .int .i64 b9, .slice A b10.length c]] (by rfl) rfl rfl zbb5 ?_
        with_reducible refine (Rivals_x a0 a1 a2 a3 a4 a5 a6 a7 a8 a9 a10 aA ac b0 b1 b2 b3 b4 b5 b6 b7 b8 b9 b10 A c _).mono ?_
        rintro e wz ⟨rfl, hb⟩
        refine ⟨_, rfl, ?_⟩
        have n_ := Lib.hid (HX3.out.trans (hb.mono HX3.out.size)); clear HX3; have HX3 := n_; clear n_ hb
        rw [HCN.out]
        refine hK.out _ _ ⟨zbbp HX3.out x0, zbbp HX3.out x1, zbbp HX3.out x2, zbbp HX3.out x3, zbbp HX3.out x4, zbbp HX3.out x5, zbbp HX3.out x6, zbbp HX3.out x7, zbbp HX3.out x8, zbbp HX3.out x9, zbbp HX3.out x10, zbbp HX3.out z0, zbbp HX3.out z1, zbbp HX3.out z2, zbbp HX3.out z3, zbbp HX3.out z4, zbbp HX3.out z5, zbbp HX3.out z6, zbbp HX3.out z7, zbbp HX3.out z8, zbbp HX3.out z9, zbbp HX3.out z10, zbbp HX3.out y2⟩ (fun hHeld => norm_ zbb3 ?_)
        clear hK K
        refine pA 9 (some 41) rfl rfl zbb1 zbb0 ?_
        refine done_ (by kernel_rfl) ?_
        go_wp2
        cases gk with
        | zero => exact absurd HJ.out (by omega)
        | succ kk =>
          go_roundg kk
          case measure => omega
          case rel =>
           have h1 := HSN.out
           rw [if_neg (by rw [HP0.out]; exact fun e => absurd ((eqN_iff _ _).1 HCN.out) (of_decide_eq_true e)), List.append_nil] at h1
           exact ⟨j + 1, l5, by first | rw [HE1.out] | rfl, by have := HJ.out; omega, by omega, HBd.out.trans (HX3.out.mono HBd.out.size), Kd.R_below HRd.out HX3.out, HL5.out.trans h1.symm⟩
      | false =>
        have HCN := Lib.hid cN
        clear cN
        refine start_ (n := 10) (S := fun w' => w'.cell? ⟨w.heap.size, 0, none⟩ = some (.string b0) ∧ w'.cell? ⟨w.heap.size, 1, none⟩ = some (.int .i64 b1) ∧ w'.cell? ⟨w.heap.size, 2, none⟩ = some (.int .i64 b2) ∧ w'.cell? ⟨w.heap.size, 3, none⟩ = some (.int .i64 b3) ∧ w'.cell? ⟨w.heap.size, 4, none⟩ = some (.int .i64 b4) ∧ w'.cell? ⟨w.heap.size, 5, none⟩ = some (.int .i64 b5) ∧ w'.cell? ⟨w.heap.size, 6, none⟩ = some (.int .i64 b6) ∧ w'.cell? ⟨w.heap.size, 7, none⟩ = some (.int .i64 b7) ∧ w'.cell? ⟨w.heap.size, 8, none⟩ = some (.string b8) ∧ w'.cell? ⟨w.heap.size, 9, none⟩ = some (.int .i64 b9) ∧ w'.cell? ⟨w.heap.size, 10, none⟩ = some (.slice A b10.length c) ∧ w'.cell? ⟨ga, j * 11, none⟩ = some (.string a0) ∧ w'.cell? ⟨ga, j * 11 + 1, none⟩ = some (.int .i64 a1) ∧ w'.cell? ⟨ga, j * 11 + 2, none⟩ = some (.int .i64 a2) ∧ w'.cell? ⟨ga, j * 11 + 3, none⟩ = some (.int .i64 a3) ∧ w'.cell? ⟨ga, j * 11 + 4, none⟩ = some (.int .i64 a4) ∧ w'.cell? ⟨ga, j * 11 + 5, none⟩ = some (.int .i64 a5) ∧ w'.cell? ⟨ga, j * 11 + 6, none⟩ = some (.int .i64 a6) ∧ w'.cell? ⟨ga, j * 11 + 7, none⟩ = some (.int .i64 a7) ∧ w'.cell? ⟨ga, j * 11 + 8, none⟩ = some (.string a8) ∧ w'.cell? ⟨ga, j * 11 + 9, none⟩ = some (.int .i64 a9) ∧ w'.cell? ⟨ga, j * 11 + 10, none⟩ = some (.slice aA a10.length ac) ∧ w'.cell? ⟨g, 2, none⟩ = some (.slice (some ⟨ga, 0, none⟩) X.length cx)) (ds := []) #[false, false, false, false, false, false, false, false, false, false] (by kernel_rfl) rfl rfl ⟨x0, x1, x2, x3, x4, x5, x6, x7, x8, x9, x10, z0, z1, z2, z3, z4, z5, z6, z7, z8, z9, z10, y2⟩ (fun hHeld => ?_)
        generalize wr.drew = wd at HBd HRGd HBXd HRd x0 x1 x2 x3 x4 x5 x6 x7 x8 x9 x10 z0 z1 z2 z3 z4 z5 z6 z7 z8 z9 z10 y2 hHeld ⊢; have HX3 := Lib.hid (Below.refl wd.heap.size wd)
        refine pA 0 (some 32) rfl rfl zbb1 zbb0 ?_
        refine pA 1 (some 33) rfl rfl zbb1 zbb0 ?_
        refine pA 2 (some 34) rfl rfl zbb1 zbb0 ?_
        refine pA 4 (some 36) rfl rfl zbb1 zbb0 ?_
        refine tA 3 (some 35) rfl rfl zbb2 hHeld zbb0 ?_
        refine pA 5 (some 37) rfl rfl zbb1 zbb0 ?_
        refine tA 6 (some 38) rfl rfl zbb2 hHeld zbb0 ?_
        refine tA 7 (some 39) rfl rfl zbb2 hHeld zbb0 ?_
        refine oA 8 (some 40) rfl rfl (fun K hK => ?_)
        refine goes_ Try.func40 (by kernel_rfl) rfl #[.agg #[.string a0, .int .i64 a1, .int .i64 a2, .int .i64 a3, .int .i64 a4, .int .i64 a5, .int .i64 a6, .int .i64 a7, .string a8, .int .i64 a9, .slice aA a10.length ac], .agg #[.string b0, .int .i64 b1, .int .i64 b2, .int .i64 b3, .int .i64 b4, .int .i64 b5, .int .i64 b6, .int .i64 b7, .string b8, .int .i64 b9, .slice A b10.length c]] (by rfl) rfl rfl zbb5 ?_
        with_reducible refine (Rivals_x a0 a1 a2 a3 a4 a5 a6 a7 a8 a9 a10 aA ac b0 b1 b2 b3 b4 b5 b6 b7 b8 b9 b10 A c _).mono ?_
        rintro e wz ⟨rfl, hb⟩
        refine ⟨_, rfl, ?_⟩
        have n_ := Lib.hid (HX3.out.trans (hb.mono HX3.out.size)); clear HX3; have HX3 := n_; clear n_ hb
        rw [HCN.out]
        refine hK.out _ _ ⟨zbbp HX3.out x0, zbbp HX3.out x1, zbbp HX3.out x2, zbbp HX3.out x3, zbbp HX3.out x4, zbbp HX3.out x5, zbbp HX3.out x6, zbbp HX3.out x7, zbbp HX3.out x8, zbbp HX3.out x9, zbbp HX3.out x10, zbbp HX3.out z0, zbbp HX3.out z1, zbbp HX3.out z2, zbbp HX3.out z3, zbbp HX3.out z4, zbbp HX3.out z5, zbbp HX3.out z6, zbbp HX3.out z7, zbbp HX3.out z8, zbbp HX3.out z9, zbbp HX3.out z10, zbbp HX3.out y2⟩ (fun hHeld => norm_ zbb3 ?_)
        clear hK K
        refine pA 9 (some 41) rfl rfl zbb1 zbb0 ?_
        refine done_ (by kernel_rfl) ?_
        have HRy := Lib.hid (Kd.R_below HRd.out HX3.out)
        have HBy := Lib.hid (HBd.out.trans (HX3.out.mono HBd.out.size))
        have HRGy := Lib.hid (rangeAt_below HRGd.out HX3.out)
        have y3 := zbbp HX3.out y2
        clear hHeld HRd HBd HX3 HRGd HBXd y2 x0 x1 x2 x3 x4 x5 x6 x7 x8 x9 x10 z0 z1 z2 z3 z4 z5 z6 z7 z8 z9 z10
        go_wp2_with (first
         | (refine wpList_load_mid rfl 55 (.tmp 48) rfl ga (j * 11) rfl (#[.string a0, .int .i64 a1, .int .i64 a2, .int .i64 a3, .int .i64 a4, .int .i64 a5, .int .i64 a6, .int .i64 a7, .string a8, .int .i64 a9, .slice aA a10.length ac] : Array Value).toList _ HRGy.out Try.underlying55 rfl (inf11 rfl) ?_)
         | ((with_reducible refine gate_builtin (b := .append) (xs := #[.tmp 42, .tmp 50]) rfl ?_); at_builtin
            go_loud (refine Kd.R_append kPp (w0 := wx) (W := wz) wx.heap.size rfl (.tmp 42) (.tmp 50) 42 55 (.agg ZP) 120 rfl und42 info55' rfl (show 0 < 11 by omega) (by omega) u5 l5 (⟨⟨a0, a1, ⟨a2, a3, a4⟩, ⟨a5, a6, a7⟩, a8, a9, a10⟩, aA, ac, asz, atm⟩ : Kp) [.string a0, .int .i64 a1, .int .i64 a2, .int .i64 a3, .int .i64 a4, .int .i64 a5, .int .i64 a6, .int .i64 a7, .string a8, .int .i64 a9, .slice aA a10.length ac] (fun _ => True) (fun _ => False) rfl ?aX ?aP (fun _ hk => hk.elim) ?aF ?aO ?aB ?aS ?aL ?_)
            go_loud (case aX => rfl)
            go_loud (case aP => exact rfl)
            go_loud (case aF => exact fun _ _ => trivial)
            go_loud (case aO => exact HRy.out)
            go_loud (case aB => exact HBy.out)
            go_loud (case aS => exact HBy.out.size)
            go_loud (case aL => have h_ := congrArg List.length HL5.out; have h2_ := List.length_filter_le (fun x : Kp => decide (x.nm ≠ nmOf P0)) (X.take j); rw [List.length_take] at h2_; have := HBY.out; unfold others at h_; omega)
            intro v9 w9 ho9 hb9 hg9 hat9
            have HO9 := Lib.hid ho9
            have HB9 := Lib.hid hb9
            clear ho9 hb9 hg9 hat9))
        cases gk with
        | zero => exact absurd HJ.out (by omega)
        | succ kk =>
          go_roundg kk
          case measure => omega
          case rel =>
           have h1 := HSN.out
           rw [if_pos (by rw [HP0.out]; refine decide_eq_true (fun e => ?_); have h2 := (eqN_iff _ _).2 e; have h3 := HCN.out; simp only [Kp.nm] at h2; rw [h3] at h2; cases h2)] at h1
           exact ⟨j + 1, _, by first | rw [HE1.out] | rfl, by have := HJ.out; omega, by omega, HB9.out, HO9.out, by rw [HL5.out]; exact h1.symm⟩
    · have d2 : decide ((j : Int) < (X.length : Int)) = false := decide_eq_false (by omega)
      have hje : j = X.length := by omega
      subst hje
      rw [List.take_length] at hl5
      obtain ⟨A5, c5, rfl⟩ := Kd.R_slice hr
      have HC5 := Lib.hid (Kd.R_reads' hr).2
      have HE5 := Lib.hid hl5
      have HLN := Lib.hid (show l5.length ≤ X.length from by rw [hl5]; exact List.length_filter_le _ _)
      have HOK := Lib.hid (show ∀ y ∈ l5, y ∈ X from by rw [hl5]; exact fun y hy => (List.mem_filter.1 hy).1)
      obtain ⟨wj, hwj⟩ : ∃ W, W = wr := ⟨_, rfl⟩
      subst hwj
      have HBXj := Lib.hid (blk_below HX1.out HBr.out)
      have HCj := Lib.hid (blk_below HCELL.out HBr.out)
      clear hb hr hj hjl hl5 HRr HL5 c0
      have HCW := Lib.hid (Kd.C_below HRC.out HB1.out)
      go_wp2
      clear y2
      go_loopg [5] (l5.length + 1) (fun kq v5 w' => ∃ (k : Nat) (A7 : Option Addr) (l7 : List Kp) (c7 : Nat), v5 = .slice A7 l7.length c7 ∧ l7 = l5.drop k ∧ Kd.C kPp w' A7 l7.length l7 ∧ l7.length ≤ c7 ∧ Below wx.heap.size wx w' ∧ k + kq = l5.length + 1 ∧ k ≤ l5.length ∧ fitP (l7.map Kp.p) (bytes - zp) = fitP (l5.map Kp.p) (bytes - zp))
      case atStart => exact ⟨0, A5, l5, c5, rfl, by simp, HC5.out.2, HC5.out.1, HBr.out, by omega, by omega, rfl⟩
      case round =>
       obtain ⟨k, A7, l7, c7, rfl, hl7, hC7, hc7, hb7, hk, hkl, hf⟩ := hrel
       have HL7 := Lib.hid hl7
       have HC7 := Lib.hid hC7
       have HK7 := Lib.hid (show l7.length ≤ c7 from hc7)
       have HJ7 := Lib.hid (show k + gk = l5.length + 1 ∧ k ≤ l5.length ∧ l7.length = l5.length - k from ⟨hk, hkl, by rw [hl7, List.length_drop]⟩)
       have HF7 := Lib.hid hf
       have HSUB := Lib.hid (show ∀ y ∈ l7, y ∈ X from fun y hy => HOK.out y (by rw [hl7] at hy; exact List.mem_of_mem_drop hy))
       have hpo : ∀ p ∈ l7.map Kp.p, POk p := fun p hp => by
        obtain ⟨y, hy, rfl⟩ := List.mem_map.1 hp
        exact (HR1.out.good y (HSUB.out y hy)).2.2.ok
       have hln : (l7.map Kp.p).length ≤ 1000 := by rw [List.length_map]; have := HJ7.out; have := HLN.out; have := HBY.out; omega
       obtain ⟨kq, hkq⟩ := (refSum_ev (l7.map Kp.p) hln hpo).rounds
       have hsb := sumP_bound (l7.map Kp.p) hpo (l7.map Kp.p).length
       rw [List.take_length] at hsb
       obtain ⟨s1, hs1⟩ : ∃ x, x = sumP (l7.map Kp.p) := ⟨_, rfl⟩
       obtain ⟨s2, hs2⟩ : ∃ x, x = s1 + zp := ⟨_, rfl⟩
       rw [← hs1] at hkq hsb
       have HS1 := Lib.hid hs1
       have HS2 := Lib.hid hs2
       have HKQ := Lib.hid hkq
       have HWR := Lib.hid (sumz_wraps s1 zp s2 (by omega) (by rw [HZP.out]; have h1 := HPK.out.ok.enc; rw [show szP ⟨b0, b1, ⟨b2, b3, b4⟩, ⟨b5, b6, b7⟩, b8, b9, b10⟩ = ((EncB ⟨b0, b1, ⟨b2, b3, b4⟩, ⟨b5, b6, b7⟩, b8, b9, b10⟩).size : Int) from rfl]; omega) hs2)
       go_upto_region 11 with fail
       have HBd := Lib.hid hb7.drew
       have HRd := Lib.hid (HR1.out.below HBd.out)
       have HXd := Lib.hid (blk_below HX1.out HBd.out)
       have HCd := Lib.hid (blk_below HCELL.out HBd.out)
       have HC7d := Lib.hid (Kd.C_drew HC7.out)
       have HWd := Lib.hid (Kd.C_below HCW.out HBd.out)
       have y1 := ck HCd.out 1 _ rfl
       have x0 := ck HXd.out 0 _ rfl
       have x1 := ck HXd.out 1 _ rfl
       have x2 := ck HXd.out 2 _ rfl
       have x3 := ck HXd.out 3 _ rfl
       have x4 := ck HXd.out 4 _ rfl
       have x5 := ck HXd.out 5 _ rfl
       have x6 := ck HXd.out 6 _ rfl
       have x7 := ck HXd.out 7 _ rfl
       have x8 := ck HXd.out 8 _ rfl
       have x9 := ck HXd.out 9 _ rfl
       have x10 := ck HXd.out 10 _ rfl
       clear hl7 hC7 hc7 hb7 hk hkl hf hpo hln hkq hsb hs1 hs2 HC7
       obtain ⟨m1, m2⟩ := HWR.out
       by_cases cs : bytes < s2
       · have d3 : decide (bytes < s2) = true := decide_eq_true cs
         have HCS := Lib.hid (fitP_step (l := l7.map Kp.p) (room := bytes - zp) (by rw [← HS1.out]; have := HS2.out; omega) (by have := HNB.out; omega))
         clear cs
         refine start_ (n := 10) (S := fun w' => w'.cell? ⟨w.heap.size, 0, none⟩ = some (.string b0) ∧ w'.cell? ⟨w.heap.size, 1, none⟩ = some (.int .i64 b1) ∧ w'.cell? ⟨w.heap.size, 2, none⟩ = some (.int .i64 b2) ∧ w'.cell? ⟨w.heap.size, 3, none⟩ = some (.int .i64 b3) ∧ w'.cell? ⟨w.heap.size, 4, none⟩ = some (.int .i64 b4) ∧ w'.cell? ⟨w.heap.size, 5, none⟩ = some (.int .i64 b5) ∧ w'.cell? ⟨w.heap.size, 6, none⟩ = some (.int .i64 b6) ∧ w'.cell? ⟨w.heap.size, 7, none⟩ = some (.int .i64 b7) ∧ w'.cell? ⟨w.heap.size, 8, none⟩ = some (.string b8) ∧ w'.cell? ⟨w.heap.size, 9, none⟩ = some (.int .i64 b9) ∧ w'.cell? ⟨w.heap.size, 10, none⟩ = some (.slice A b10.length c) ∧ w'.cell? ⟨g, 1, none⟩ = some (.int .i64 bytes)) (ds := []) #[false, false, false, false, false, false, false, false, false, false] (by kernel_rfl) rfl rfl ⟨x0, x1, x2, x3, x4, x5, x6, x7, x8, x9, x10, y1⟩ (fun hHeld => ?_)
         generalize wr.drew = wd at HBd HRd HXd HCd HC7d HWd x0 x1 x2 x3 x4 x5 x6 x7 x8 x9 x10 y1 hHeld ⊢; have HX3 := Lib.hid (Below.refl wd.heap.size wd)
         refine pA 0 (some 52) rfl rfl zbb1 zbb0 ?_
         refine pA 5 (some 57) rfl rfl zbb1 zbb0 ?_
         refine pA 6 (some 58) rfl rfl zbb1 zbb0 ?_
         refine pA 7 (some 59) rfl rfl zbb1 zbb0 ?_
         refine tA 2 (some 54) rfl rfl zbb4 hHeld zbb0 ?_
         refine tA 8 (some 60) rfl rfl zbb4 hHeld zbb0 ?_
         refine oA 1 (some 53) rfl rfl (fun K hK => ?_)
         refine goes_ Try.func76 (by kernel_rfl) rfl #[.slice A7 l7.length c7] (by rfl) rfl rfl zbb5 ?_
         with_reducible refine (refSum_n kq A7 c7 l7 s1 _ (kPp_C HC7d.out (HRd.out.goodC HSUB.out)) HK7.out HKQ.out).mono ?_
         rintro e wu ⟨rfl, hb⟩
         refine ⟨_, rfl, ?_⟩
         have n_ := Lib.hid (HX3.out.trans (hb.mono HX3.out.size)); clear HX3; have HX3 := n_; clear n_ hb
         refine hK.out _ _ ⟨zbbp HX3.out x0, zbbp HX3.out x1, zbbp HX3.out x2, zbbp HX3.out x3, zbbp HX3.out x4, zbbp HX3.out x5, zbbp HX3.out x6, zbbp HX3.out x7, zbbp HX3.out x8, zbbp HX3.out x9, zbbp HX3.out x10, zbbp HX3.out y1⟩ (fun hHeld => norm_ zbb3 ?_)
         clear hK K
         refine oA 3 (some 55) rfl rfl (fun K hK => ?_)
         refine goes_ Try.func75 (by kernel_rfl) rfl #[.agg #[.string b0, .int .i64 b1, .int .i64 b2, .int .i64 b3, .int .i64 b4, .int .i64 b5, .int .i64 b6, .int .i64 b7, .string b8, .int .i64 b9, .slice A b10.length c]] (by rfl) rfl rfl zbb5 ?_
         with_reducible refine (abugidaref35_size.calls ks b0 b1 b2 b3 b4 b5 b6 b7 b8 b9 A c b10 _ _ (Kd.C_below HWd.out HX3.out) HCC.out HKZ.out).mono ?_
         rintro e wv ⟨rfl, hb⟩
         refine ⟨_, rfl, ?_⟩
         have n_ := Lib.hid (HX3.out.trans (hb.mono HX3.out.size)); clear HX3; have HX3 := n_; clear n_ hb
         refine hK.out _ _ ⟨zbbp HX3.out x0, zbbp HX3.out x1, zbbp HX3.out x2, zbbp HX3.out x3, zbbp HX3.out x4, zbbp HX3.out x5, zbbp HX3.out x6, zbbp HX3.out x7, zbbp HX3.out x8, zbbp HX3.out x9, zbbp HX3.out x10, zbbp HX3.out y1⟩ (fun hHeld => norm_ zbb3 ?_)
         clear hK K
         refine pA 4 (some 56) rfl rfl zbb1 zbb0 ?_
         refine pA 9 (some 61) rfl rfl zbb1 zbb0 ?_
         refine done_ (by kernel_rfl) ?_
         have HCy := Lib.hid (Kd.C_below HC7d.out HX3.out)
         have HBy := Lib.hid (HBd.out.trans (HX3.out.mono HBd.out.size))
         obtain ⟨A8, hcut, hA8⟩ := cut1 A7 l7.length c7 (by have := HCS.out.1; rw [List.length_map] at this; exact this) HK7.out
         have HA8 := Lib.hid hA8
         clear hHeld hA8 HX3 HBd HRd HXd HCd HC7d HWd y1 x0 x1 x2 x3 x4 x5 x6 x7 x8 x9 x10 m1 m2
         go_wp2
         cases gk with
         | zero => exact absurd HJ7.out (by have h1 := HCS.out.1; rw [List.length_map] at h1; omega)
         | succ kk =>
           go_roundg kk
           case measure => omega
           case rel =>
            have h1 := HCS.out.1
            rw [List.length_map] at h1
            refine ⟨k + 1, A8, l7.drop 1, c7 - 1, by rw [List.length_drop], by rw [HL7.out, List.drop_drop], by rw [List.length_drop]; exact HA8.out _ _ rfl HCy.out, by rw [List.length_drop]; have := HK7.out; omega, HBy.out, by have := HJ7.out; omega, by have := HJ7.out; omega, ?_⟩
            rw [← HF7.out, ← HCS.out.2, List.map_drop]
       · have d3 : decide (bytes < s2) = false := decide_eq_false cs
         have HCS := Lib.hid (fitP_stop (l := l7.map Kp.p) (room := bytes - zp) (by rw [← HS1.out]; have := HS2.out; omega))
         clear cs
         refine start_ (n := 10) (S := fun w' => w'.cell? ⟨w.heap.size, 0, none⟩ = some (.string b0) ∧ w'.cell? ⟨w.heap.size, 1, none⟩ = some (.int .i64 b1) ∧ w'.cell? ⟨w.heap.size, 2, none⟩ = some (.int .i64 b2) ∧ w'.cell? ⟨w.heap.size, 3, none⟩ = some (.int .i64 b3) ∧ w'.cell? ⟨w.heap.size, 4, none⟩ = some (.int .i64 b4) ∧ w'.cell? ⟨w.heap.size, 5, none⟩ = some (.int .i64 b5) ∧ w'.cell? ⟨w.heap.size, 6, none⟩ = some (.int .i64 b6) ∧ w'.cell? ⟨w.heap.size, 7, none⟩ = some (.int .i64 b7) ∧ w'.cell? ⟨w.heap.size, 8, none⟩ = some (.string b8) ∧ w'.cell? ⟨w.heap.size, 9, none⟩ = some (.int .i64 b9) ∧ w'.cell? ⟨w.heap.size, 10, none⟩ = some (.slice A b10.length c) ∧ w'.cell? ⟨g, 1, none⟩ = some (.int .i64 bytes)) (ds := []) #[false, false, false, false, false, false, false, false, false, false] (by kernel_rfl) rfl rfl ⟨x0, x1, x2, x3, x4, x5, x6, x7, x8, x9, x10, y1⟩ (fun hHeld => ?_)
         generalize wr.drew = wd at HBd HRd HXd HCd HC7d HWd x0 x1 x2 x3 x4 x5 x6 x7 x8 x9 x10 y1 hHeld ⊢; have HX3 := Lib.hid (Below.refl wd.heap.size wd)
         refine pA 0 (some 52) rfl rfl zbb1 zbb0 ?_
         refine pA 5 (some 57) rfl rfl zbb1 zbb0 ?_
         refine pA 6 (some 58) rfl rfl zbb1 zbb0 ?_
         refine pA 7 (some 59) rfl rfl zbb1 zbb0 ?_
         refine tA 2 (some 54) rfl rfl zbb4 hHeld zbb0 ?_
         refine tA 8 (some 60) rfl rfl zbb4 hHeld zbb0 ?_
         refine oA 1 (some 53) rfl rfl (fun K hK => ?_)
         refine goes_ Try.func76 (by kernel_rfl) rfl #[.slice A7 l7.length c7] (by rfl) rfl rfl zbb5 ?_
         with_reducible refine (refSum_n kq A7 c7 l7 s1 _ (kPp_C HC7d.out (HRd.out.goodC HSUB.out)) HK7.out HKQ.out).mono ?_
         rintro e wu ⟨rfl, hb⟩
         refine ⟨_, rfl, ?_⟩
         have n_ := Lib.hid (HX3.out.trans (hb.mono HX3.out.size)); clear HX3; have HX3 := n_; clear n_ hb
         refine hK.out _ _ ⟨zbbp HX3.out x0, zbbp HX3.out x1, zbbp HX3.out x2, zbbp HX3.out x3, zbbp HX3.out x4, zbbp HX3.out x5, zbbp HX3.out x6, zbbp HX3.out x7, zbbp HX3.out x8, zbbp HX3.out x9, zbbp HX3.out x10, zbbp HX3.out y1⟩ (fun hHeld => norm_ zbb3 ?_)
         clear hK K
         refine oA 3 (some 55) rfl rfl (fun K hK => ?_)
         refine goes_ Try.func75 (by kernel_rfl) rfl #[.agg #[.string b0, .int .i64 b1, .int .i64 b2, .int .i64 b3, .int .i64 b4, .int .i64 b5, .int .i64 b6, .int .i64 b7, .string b8, .int .i64 b9, .slice A b10.length c]] (by rfl) rfl rfl zbb5 ?_
         with_reducible refine (abugidaref35_size.calls ks b0 b1 b2 b3 b4 b5 b6 b7 b8 b9 A c b10 _ _ (Kd.C_below HWd.out HX3.out) HCC.out HKZ.out).mono ?_
         rintro e wv ⟨rfl, hb⟩
         refine ⟨_, rfl, ?_⟩
         have n_ := Lib.hid (HX3.out.trans (hb.mono HX3.out.size)); clear HX3; have HX3 := n_; clear n_ hb
         refine hK.out _ _ ⟨zbbp HX3.out x0, zbbp HX3.out x1, zbbp HX3.out x2, zbbp HX3.out x3, zbbp HX3.out x4, zbbp HX3.out x5, zbbp HX3.out x6, zbbp HX3.out x7, zbbp HX3.out x8, zbbp HX3.out x9, zbbp HX3.out x10, zbbp HX3.out y1⟩ (fun hHeld => norm_ zbb3 ?_)
         clear hK K
         refine pA 4 (some 56) rfl rfl zbb1 zbb0 ?_
         refine pA 9 (some 61) rfl rfl zbb1 zbb0 ?_
         refine done_ (by kernel_rfl) ?_
         have HB2 := Lib.hid (HBd.out.trans (HX3.out.mono HBd.out.size))
         have HC2 := Lib.hid (Kd.C_below HC7d.out HX3.out)
         clear hHeld HX3 HBd HRd HXd HCd HC7d HWd y1 x0 x1 x2 x3 x4 x5 x6 x7 x8 x9 x10 m1 m2
         go_upto_region 13 with fail
         have HBd := Lib.hid HB2.out.drew
         have HRd := Lib.hid (HR1.out.below HBd.out)
         have HXd := Lib.hid (blk_below HX1.out HBd.out)
         have HCd := Lib.hid (blk_below HCELL.out HBd.out)
         have HC7d := Lib.hid (Kd.C_drew HC2.out)
         have HWd := Lib.hid (Kd.C_below HCW.out HBd.out)
         have x0 := ck HXd.out 0 _ rfl
         have x1 := ck HXd.out 1 _ rfl
         have x2 := ck HXd.out 2 _ rfl
         have x3 := ck HXd.out 3 _ rfl
         have x4 := ck HXd.out 4 _ rfl
         have x5 := ck HXd.out 5 _ rfl
         have x6 := ck HXd.out 6 _ rfl
         have x7 := ck HXd.out 7 _ rfl
         have x8 := ck HXd.out 8 _ rfl
         have x9 := ck HXd.out 9 _ rfl
         have x10 := ck HXd.out 10 _ rfl
         clear HB2 HC2
         refine start_ (n := 11) (S := fun w' => w'.cell? ⟨w.heap.size, 0, none⟩ = some (.string b0) ∧ w'.cell? ⟨w.heap.size, 1, none⟩ = some (.int .i64 b1) ∧ w'.cell? ⟨w.heap.size, 2, none⟩ = some (.int .i64 b2) ∧ w'.cell? ⟨w.heap.size, 3, none⟩ = some (.int .i64 b3) ∧ w'.cell? ⟨w.heap.size, 4, none⟩ = some (.int .i64 b4) ∧ w'.cell? ⟨w.heap.size, 5, none⟩ = some (.int .i64 b5) ∧ w'.cell? ⟨w.heap.size, 6, none⟩ = some (.int .i64 b6) ∧ w'.cell? ⟨w.heap.size, 7, none⟩ = some (.int .i64 b7) ∧ w'.cell? ⟨w.heap.size, 8, none⟩ = some (.string b8) ∧ w'.cell? ⟨w.heap.size, 9, none⟩ = some (.int .i64 b9) ∧ w'.cell? ⟨w.heap.size, 10, none⟩ = some (.slice A b10.length c)) (ds := [10]) #[false, false, false, false, false, false, false, false, false, false, false] (by kernel_rfl) rfl rfl ⟨x0, x1, x2, x3, x4, x5, x6, x7, x8, x9, x10⟩ (fun hHeld => ?_)
         generalize wv.drew = wd at HBd HRd HXd HCd HC7d HWd x0 x1 x2 x3 x4 x5 x6 x7 x8 x9 x10 hHeld ⊢; have HX3 := Lib.hid (Below.refl wd.heap.size wd)
         refine pA 0 (some 64) rfl rfl zbb1 zbb0 ?_
         refine pA 2 (some 66) rfl rfl zbb1 zbb0 ?_
         refine tA 4 (some 68) rfl rfl (by rintro w' ⟨s0, s1, s2, s3, s4, s5, s6, s7, s8, s9, s10⟩; go_simp; with_reducible rfl) hHeld zbb0 ?_
         refine oA 1 (some 65) rfl rfl (fun K hK => ?_)
         refine Kd.R_lit_step kPp (w0 := wd) wd.heap.size 55 (by rfl) (N := 65) rfl (xs := []) (inner := []) (ok := fun _ => True) (okp := fun _ => False) ?hr ?hp (fun _ hk => hk.elim) trivial HX3.out (Nat.le_refl _) (by simp) ?_
         case hr => first | (go_simp; done) | (go_simp; rfl)
         case hp => exact Reps.none _ _
         intro v65 wa hr1 hb1 hg1 hat1
         have HR65 := Lib.hid hr1; have n_ := Lib.hid (hb1); clear HX3; have HX3 := n_; clear n_; clear hr1 hb1 hg1 hat1
         refine hK.out _ _ ⟨zbbp HX3.out x0, zbbp HX3.out x1, zbbp HX3.out x2, zbbp HX3.out x3, zbbp HX3.out x4, zbbp HX3.out x5, zbbp HX3.out x6, zbbp HX3.out x7, zbbp HX3.out x8, zbbp HX3.out x9, zbbp HX3.out x10⟩ (fun hHeld => norm_ zbb3 ?_)
         clear hK K
         refine oA 3 (some 67) rfl rfl (fun K hK => ?_)
         refine Kd.R_append_rows_step kPp (Rr := fun x cs => cs = pcells x.p x.A x.c) (w0 := wd) wd.heap.size (by rfl) (.tmp 65) (.tmp 66) 42 55 (.agg ZP) 120 rfl und42 info55' rfl (show 0 < 11 by omega) (by omega) v65 [] l7 A7 l7.length c7 (fun _ => True) (fun _ => False) rfl rfl HR65.out (Kd.C_below HC7d.out HX3.out) (fun _ _ h => h) (fun _ hk => hk.elim) (fun _ _ => trivial) HX3.out HX3.out.size ?aL ?_
         case aL => have := HJ7.out; have := HLN.out; have := HBY.out; simp; omega
         intro v67 wb hr1 hb1 hg1 hat1
         have HR67 := Lib.hid (show Kd.R kPp 55 wb wd.heap.size (fun _ => True) v67 l7 from hr1); have n_ := Lib.hid (hb1); clear HX3; have HX3 := n_; clear n_; clear hr1 hb1 hg1 hat1 HR65
         refine hK.out _ _ ⟨zbbp HX3.out x0, zbbp HX3.out x1, zbbp HX3.out x2, zbbp HX3.out x3, zbbp HX3.out x4, zbbp HX3.out x5, zbbp HX3.out x6, zbbp HX3.out x7, zbbp HX3.out x8, zbbp HX3.out x9, zbbp HX3.out x10⟩ (fun hHeld => norm_ zbb3 ?_)
         clear hK K
         refine oA 5 (some 69) rfl rfl (fun K hK => ?_)
         refine goes_ Try.func77 (by kernel_rfl) rfl #[.agg #[.string b0, .int .i64 b1, .int .i64 b2, .int .i64 b3, .int .i64 b4, .int .i64 b5, .int .i64 b6, .int .i64 b7, .string b8, .int .i64 b9, .slice A b10.length c]] (by rfl) rfl rfl zbb5 ?_
         with_reducible refine (copied_n b0 b1 b2 b3 b4 b5 b6 b7 b8 b9 b10 A c _ (Kd.C_below HWd.out HX3.out) HCC.out HPK.out.few).mono ?_
         rintro e wc ⟨Bc, dc, rfl, hdc, hFc, hb⟩
         refine ⟨_, rfl, ?_⟩
         have HDC := Lib.hid hdc; have HFC := Lib.hid (Kd.F_mono (ok' := fun k => wd.heap.size ≤ k ∧ some k ≠ v67.ownBlock) hFc (fun k hk => ⟨Nat.le_trans HX3.out.size hk, fun e => by have := Kd.R_lt HR67.out k e.symm; omega⟩)); have HR68 := Lib.hid (Kd.R_below HR67.out hb); clear hdc hFc HR67
         have n_ := Lib.hid (HX3.out.trans (hb.mono HX3.out.size)); clear HX3; have HX3 := n_; clear n_ hb
         refine hK.out _ _ ⟨zbbp HX3.out x0, zbbp HX3.out x1, zbbp HX3.out x2, zbbp HX3.out x3, zbbp HX3.out x4, zbbp HX3.out x5, zbbp HX3.out x6, zbbp HX3.out x7, zbbp HX3.out x8, zbbp HX3.out x9, zbbp HX3.out x10⟩ (fun hHeld => norm_ zbb3 ?_)
         clear hK K
         refine oA 6 (some 70) rfl rfl (fun K hK => ?_)
         refine value_ (w1 := ?_) (v := ?_) (by rfl) rfl ?_ ?_
         rotate_left 2
         · go_simp
           constructor
           · rfl
           · rfl
         refine hK.out _ _ ⟨(zbbp HX3.out x0 |> (fun h_ => ((below_alloc (Below.refl _ _) _).cell (World.block_lt_of_cell? _ _ h_)).trans h_)), (zbbp HX3.out x1 |> (fun h_ => ((below_alloc (Below.refl _ _) _).cell (World.block_lt_of_cell? _ _ h_)).trans h_)), (zbbp HX3.out x2 |> (fun h_ => ((below_alloc (Below.refl _ _) _).cell (World.block_lt_of_cell? _ _ h_)).trans h_)), (zbbp HX3.out x3 |> (fun h_ => ((below_alloc (Below.refl _ _) _).cell (World.block_lt_of_cell? _ _ h_)).trans h_)), (zbbp HX3.out x4 |> (fun h_ => ((below_alloc (Below.refl _ _) _).cell (World.block_lt_of_cell? _ _ h_)).trans h_)), (zbbp HX3.out x5 |> (fun h_ => ((below_alloc (Below.refl _ _) _).cell (World.block_lt_of_cell? _ _ h_)).trans h_)), (zbbp HX3.out x6 |> (fun h_ => ((below_alloc (Below.refl _ _) _).cell (World.block_lt_of_cell? _ _ h_)).trans h_)), (zbbp HX3.out x7 |> (fun h_ => ((below_alloc (Below.refl _ _) _).cell (World.block_lt_of_cell? _ _ h_)).trans h_)), (zbbp HX3.out x8 |> (fun h_ => ((below_alloc (Below.refl _ _) _).cell (World.block_lt_of_cell? _ _ h_)).trans h_)), (zbbp HX3.out x9 |> (fun h_ => ((below_alloc (Below.refl _ _) _).cell (World.block_lt_of_cell? _ _ h_)).trans h_)), (zbbp HX3.out x10 |> (fun h_ => ((below_alloc (Below.refl _ _) _).cell (World.block_lt_of_cell? _ _ h_)).trans h_))⟩ (fun hHeld => norm_ zbb3 ?_)
         clear hK K
         refine oA 7 (some 71) rfl rfl (fun K hK => ?_)
         refine Kd.R_append_step kPp (w0 := wd) (W := wc) wd.heap.size (by rfl) (.tmp 67) (.tmp 70) 42 55 (.agg ZP) 120 rfl und42 info55' rfl (show 0 < 11 by omega) (by omega) v67 l7 (⟨⟨b0, b1, ⟨b2, b3, b4⟩, ⟨b5, b6, b7⟩, b8, b9, b10⟩, Bc, dc, 0, 0⟩ : Kp) [.string b0, .int .i64 b1, .int .i64 b2, .int .i64 b3, .int .i64 b4, .int .i64 b5, .int .i64 b6, .int .i64 b7, .string b8, .int .i64 b9, .slice Bc b10.length dc] (fun _ => True) (fun _ => False) rfl rfl rfl (fun _ hk => hk.elim) (fun _ _ => trivial) HR68.out HX3.out HX3.out.size ?aL ?_
         case aL => have := HJ7.out; have := HLN.out; have := HBY.out; omega
         intro v71 we hr1 hb1 hg1 hat1
         obtain ⟨A71, c71, hv71⟩ := Kd.R_slice hr1; subst hv71; have HFE := Lib.hid (Kd.F_mono (ok' := fun k => wd.heap.size ≤ k) (Kd.F_grown HFC.out hg1 (fun k hk => hk.2)) (fun k hk => hk.1)); have n_ := Lib.hid (hb1); clear HX3; have HX3 := n_; clear n_; have HR71 := Lib.hid hr1; have hfz := fz (blk_below HCd.out HX3.out) 2; have y2 := ck (blk_below HCd.out HX3.out) 2 _ rfl; clear hr1 hb1 hg1 hat1 HR68
         refine hK.out _ _ ⟨zbbp HX3.out x0, zbbp HX3.out x1, zbbp HX3.out x2, zbbp HX3.out x3, zbbp HX3.out x4, zbbp HX3.out x5, zbbp HX3.out x6, zbbp HX3.out x7, zbbp HX3.out x8, zbbp HX3.out x9, zbbp HX3.out x10⟩ (fun hHeld => norm_ zbb3 ?_)
         clear hK K
         refine pA 8 (some 72) rfl rfl zbb1 zbb0 ?_
         refine pA 9 (some 73) rfl rfl zbb1 zbb0 ?_
         refine last_ (i := 10) (N := none) #[true, true, true, true, true, true, true, true, true, true, true] rfl rfl (by kernel_rfl) (by decide) (fun K hK => ?_)
         refine skip_ (w1 := ?_) (by rfl) rfl ?_ ?_
         rotate_left
         · go_simp
           rfl
         refine hK.out _ _ ?_
         clear hK K
         refine done_ (by kernel_rfl) ?_
         have HE := Lib.hid (blk_below HCd.out HX3.out)
         have HBE := Lib.hid ((HB1.out.trans (HBd.out.mono HB1.out.size)).trans (HX3.out.mono (Nat.le_trans HB1.out.size HBd.out.size)))
         clear hHeld hfz y2 x0 x1 x2 x3 x4 x5 x6 x7 x8 x9 x10
         go_wp2
         go_ret
         have hM : l7.map Kp.p = fitP (othersP (nmOf P0) (X.map Kp.p)) (bytes - zp) := by rw [← HCS.out, HF7.out, HE5.out, others_map]
         have hk : keepP bytes (X.map Kp.p) ⟨b0, b1, ⟨b2, b3, b4⟩, ⟨b5, b6, b7⟩, b8, b9, b10⟩ = (0, fitP (othersP (nmOf P0) (X.map Kp.p)) (bytes - zp) ++ [P0]) := by
          unfold keepP
          rw [← HP0.out, if_neg (by have h1 := HNB.out; rw [HP0.out, ← HZP.out]; omega), HP0.out, ← HZP.out]
         obtain ⟨pp, hpp⟩ : ∃ x : Kp, x = ⟨⟨b0, b1, ⟨b2, b3, b4⟩, ⟨b5, b6, b7⟩, b8, b9, b10⟩, Bc, dc, 0, 0⟩ := ⟨_, rfl⟩
         have h71 := HR71.out
         rw [← hpp] at h71
         have hlen : (l7 ++ [pp]).length = l7.length + 1 := by simp
         have h71 : Kd.R kPp 55 we wd.heap.size (fun _ => True) (.slice A71 (l7 ++ [pp]).length c71) (l7 ++ [pp]) := by
          first | exact h71 | (rw [hlen]; exact h71)
         have hww : w.heap.size ≤ wd.heap.size := Nat.le_trans HB1.out.size HBd.out.size
         rw [hk]
         refine ⟨l7 ++ [pp], rfl, ?_, ⟨⟨A71, c71, ?_, (Kd.R_reads' h71).2.1, fun hn => R_some h71 hn, ?_⟩, fun x hx => ?_⟩, ?_⟩
         · rw [List.map_append, hM, hpp, HP0.out]
           rfl
         · rw [hlen]
           exact cell_set HE.out 2 (by simp) _ rfl
         · exact Kd.F_far (p := ⟨g, 2, none⟩) (Kd.F_mono (Kd.R_F (Kd.R_bound h71)) (fun k hk => HQQ.out k (Nat.le_trans hww hk.2.1))) (fun k hk => HGG.out k hk) _
         · rcases List.mem_append.1 hx with hx | hx
           · have h3 := HRd.out.good x (HSUB.out x hx)
             exact ⟨h3.1, Kd.F_far (p := ⟨g, 2, none⟩) (Kd.F_below h3.2.1 HX3.out) (fun k hk => HGG.out k hk) _, h3.2.2⟩
           · have hx := List.mem_singleton.1 hx
             rw [hx, hpp]
             exact ⟨HDC.out, Kd.F_far (p := ⟨g, 2, none⟩) (Kd.F_mono HFE.out (fun k hk => HQQ.out k (Nat.le_trans hww hk))) (fun k hk => HGG.out k hk) _, HPK.out⟩
         · exact (Only.of_below HBE.out).trans ⟨rfl, rfl, rfl, by rw [size_set]; exact Nat.le_refl _, fun k hk h1 _ => Below.heap_setCell we _ _ k h1⟩
end Go.Proofs.Ythokkeljfdfppaa.Rl
