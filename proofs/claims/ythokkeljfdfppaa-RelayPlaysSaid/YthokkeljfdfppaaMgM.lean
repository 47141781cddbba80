/- Several texts of this claim, one behind the other: RmA, RmB, RmC. -/
import Derived.Test.YthokkeljfdfppaaMgX
/- Equal lists: strings, keys, patches. -/
set_option linter.unusedVariables false
set_option linter.unusedSimpArgs false
namespace Go.Proofs.Ythokkeljfdfppaa.Rl
open Go.RowKit Go.Proofs.YthokkeljfdfppaaW.PrintWords Go.Proofs.YthokkeljfdfppaaW.PrintLast Go.Proofs.YthokkeljfdfppaaW.PrintMore Go.Proofs.Ythokkeljfdfppaa.Pb Go.Proofs.Ythokkeljfdfppaa.Gw Go.Proofs.Ythokkeljfdfppaa.Pure
theorem zad3 {p : Prop} (h : p := by have := HLEN.out; omega) : p := h
theorem zad2 {p : Prop} (h : p := by rintro w' ⟨s0, s1, s2, s3, s4, s5, s6, s7, s8, s9, s10, s11, s12, s13, s14, s15, s16, s17, s18, s19, s20, s21⟩; go_simp; with_reducible rfl) : p := h
theorem zad1 {p : Prop} (h : p := by simp only [Act.put, nS]; rfl) : p := h
theorem zad0 {p : Prop} (h : p := by intro w'; go_simp; with_reducible rfl) : p := h
theorem zadp {w v : World} {p : Addr} {x : Value} (h : Below w.heap.size w v) (hx : w.cell? p = some x) : v.cell? p = some x := (h.cell (World.block_lt_of_cell? _ _ hx)).trans hx
def eqN (a b : S55) : Bool := (a.f0.toList == b.f0.toList) && ((a.f1 == b.f1) && (eqK a.f2 b.f2 && eqK a.f3 b.f3))
def eqP (a b : S55) : Bool := eqN a b && ((a.f4.toList == b.f4.toList) && ((a.f5 == b.f5) && decide (a.f6 = b.f6)))
theorem SameTexts_loop (a b : List ByteArray) (hl : a.length = b.length) (ha : a.length ≤ 9000) : ∀ (d i : Nat), a.length - i = d → i ≤ a.length → Ev (fun k => abugidaref02_SameTexts.l0 k a b i) (decide (a.drop i = b.drop i))
 | 0, i, hd, hi => by
   refine Ev.step (fun k => abugidaref02_SameTexts.l0.eq_2 ..) ?_
   refine evN (by omega) ?_
   rw [List.drop_of_length_le (by omega), List.drop_of_length_le (by omega)]
   exact Ev.now _
 | d + 1, i, hd, hi => by
   obtain ⟨x, hx⟩ := get_some (l := a) (i := i) (by omega)
   obtain ⟨y, hy⟩ := get_some (l := b) (i := i) (by omega)
   have hxe : a.drop i = x :: a.drop (i + 1) := by
    rw [List.drop_eq_getElem_cons (by omega)]
    congr 1
    rw [List.getElem?_eq_getElem (by omega)] at hx
    exact Option.some.inj hx
   have hye : b.drop i = y :: b.drop (i + 1) := by
    rw [List.drop_eq_getElem_cons (by omega)]
    congr 1
    rw [List.getElem?_eq_getElem (by omega)] at hy
    exact Option.some.inj hy
   have ih := SameTexts_loop a b hl ha d (i + 1) (by omega) (by omega)
   refine Ev.step (fun k => abugidaref02_SameTexts.l0.eq_2 ..) ?_
   refine evI (by omega) ?_
   refine evI (by omega) ?_
   refine evI (by omega) ?_
   rw [rd_some' hx, rd_some' hy]
   by_cases c : x.toList = y.toList
   · refine evI c ?_
     rw [show wrap64 ((i : Int) + 1) = ((i + 1 : Nat) : Int) from w64 (by omega) (by omega)]
     have e := toList_eq.1 c
     subst e
     rw [hxe, hye, show decide (x :: a.drop (i + 1) = x :: b.drop (i + 1)) = decide (a.drop (i + 1) = b.drop (i + 1)) from by simp]
     exact ih
   · refine evN c ?_
     rw [hxe, hye, show decide (x :: a.drop (i + 1) = y :: b.drop (i + 1)) = false from decide_eq_false (fun e => c (by injection e with e _; rw [e]))]
     exact Ev.now _
theorem SameTexts_all (a b : List ByteArray) (ha : a.length ≤ 9000) : Ev (fun k => abugidaref02_SameTexts.f k a b) (decide (a = b)) := by
 unfold abugidaref02_SameTexts.f
 by_cases c : (a.length : Int) = (b.length : Int)
 · refine evI c ?_
   exact SameTexts_loop a b (by omega) ha a.length 0 (by omega) (by omega)
 · refine evN c ?_
   rw [show decide (a = b) = false from decide_eq_false (fun e => c (by rw [e]))]
   exact Ev.now _

set_option maxHeartbeats 8000000 in
set_option maxRecDepth 100000 in
theorem Rivals_x (a0 : ByteArray) (a1 a2 a3 a4 a5 a6 a7 : Int) (a8 : ByteArray) (a9 : Int) (a10 : List ByteArray) (A : Option Addr) (ca : Nat) (b0 : ByteArray) (b1 b2 b3 b4 b5 b6 b7 : Int) (b8 : ByteArray) (b9 : Int) (b10 : List ByteArray) (B : Option Addr) (cb : Nat) (w : World) : Calls Try.prog 40 #[.agg #[.string a0, .int .i64 a1, .int .i64 a2, .int .i64 a3, .int .i64 a4, .int .i64 a5, .int .i64 a6, .int .i64 a7, .string a8, .int .i64 a9, .slice A a10.length ca], .agg #[.string b0, .int .i64 b1, .int .i64 b2, .int .i64 b3, .int .i64 b4, .int .i64 b5, .int .i64 b6, .int .i64 b7, .string b8, .int .i64 b9, .slice B b10.length cb]] w fun e w' => e = .returned (.bool (eqN (⟨a0, a1, ⟨a2, a3, a4⟩, ⟨a5, a6, a7⟩, a8, a9, a10⟩ : S55) (⟨b0, b1, ⟨b2, b3, b4⟩, ⟨b5, b6, b7⟩, b8, b9, b10⟩ : S55))) ∧ Below w.heap.size w w' := by
 have HB := Lib.hid (below_alloc (below_alloc (Below.refl w.heap.size w) (.cells #[.string a0, .int .i64 a1, .int .i64 a2, .int .i64 a3, .int .i64 a4, .int .i64 a5, .int .i64 a6, .int .i64 a7, .string a8, .int .i64 a9, .slice A a10.length ca] 55 (0, 0))) (.cells #[.string b0, .int .i64 b1, .int .i64 b2, .int .i64 b3, .int .i64 b4, .int .i64 b5, .int .i64 b6, .int .i64 b7, .string b8, .int .i64 b9, .slice B b10.length cb] 55 (0, 0)))
 have HXA := Lib.hid (blk_alloc (blk_new w (.cells #[.string a0, .int .i64 a1, .int .i64 a2, .int .i64 a3, .int .i64 a4, .int .i64 a5, .int .i64 a6, .int .i64 a7, .string a8, .int .i64 a9, .slice A a10.length ca] 55 (0, 0))) (.cells #[.string b0, .int .i64 b1, .int .i64 b2, .int .i64 b3, .int .i64 b4, .int .i64 b5, .int .i64 b6, .int .i64 b7, .string b8, .int .i64 b9, .slice B b10.length cb] 55 (0, 0)))
 have HXB := Lib.hid (blk_new (w.alloc (.cells #[.string a0, .int .i64 a1, .int .i64 a2, .int .i64 a3, .int .i64 a4, .int .i64 a5, .int .i64 a6, .int .i64 a7, .string a8, .int .i64 a9, .slice A a10.length ca] 55 (0, 0))) (.cells #[.string b0, .int .i64 b1, .int .i64 b2, .int .i64 b3, .int .i64 b4, .int .i64 b5, .int .i64 b6, .int .i64 b7, .string b8, .int .i64 b9, .slice B b10.length cb] 55 (0, 0)))
 rw [size1 w] at HXB
 have e2 := eq52 a2 a3 a4 b2 b3 b4
 have e3 := eq52 a5 a6 a7 b5 b6 b7
 unfold eqN
 dsimp only
 go_enter Try.func40, Try.ntmps40
 go_upto_region 1 with fail
 generalize (w.alloc (.cells #[.string a0, .int .i64 a1, .int .i64 a2, .int .i64 a3, .int .i64 a4, .int .i64 a5, .int .i64 a6, .int .i64 a7, .string a8, .int .i64 a9, .slice A a10.length ca] 55 (0, 0))).alloc (.cells #[.string b0, .int .i64 b1, .int .i64 b2, .int .i64 b3, .int .i64 b4, .int .i64 b5, .int .i64 b6, .int .i64 b7, .string b8, .int .i64 b9, .slice B b10.length cb] 55 (0, 0)) = W at HB HXA HXB ⊢
 have x0 := ck HXA.out 0 _ rfl
 have y0 := ck HXB.out 0 _ rfl
 have x1 := ck HXA.out 1 _ rfl
 have y1 := ck HXB.out 1 _ rfl
 have x2 := ck HXA.out 2 _ rfl
 have y2 := ck HXB.out 2 _ rfl
 have x3 := ck HXA.out 3 _ rfl
 have y3 := ck HXB.out 3 _ rfl
 have x4 := ck HXA.out 4 _ rfl
 have y4 := ck HXB.out 4 _ rfl
 have x5 := ck HXA.out 5 _ rfl
 have y5 := ck HXB.out 5 _ rfl
 have x6 := ck HXA.out 6 _ rfl
 have y6 := ck HXB.out 6 _ rfl
 have x7 := ck HXA.out 7 _ rfl
 have y7 := ck HXB.out 7 _ rfl
 cases c0 : (a0.toList == b0.toList) with
 | false =>
   go_wp2
   go_ret
   exact ⟨by simp only [c0, Bool.false_and]; rfl, HB.out⟩
 | true =>
   cases c1 : (a1 == b1) with
   | false =>
     go_wp2
     go_ret
     exact ⟨by simp only [c0, c1, Bool.true_and, Bool.false_and]; rfl, HB.out⟩
   | true =>
     cases c2 : eqK ⟨a2, a3, a4⟩ ⟨b2, b3, b4⟩ with
     | false =>
       simp only [c2] at e2
       go_wp2
       go_ret
       exact ⟨by simp only [c0, c1, c2, Bool.true_and, Bool.false_and, Bool.and_false]; rfl, HB.out⟩
     | true =>
       simp only [c2] at e2
       cases c3 : eqK ⟨a5, a6, a7⟩ ⟨b5, b6, b7⟩ with
       | false =>
         simp only [c3] at e3
         go_wp2
         go_ret
         exact ⟨by simp only [c0, c1, c2, c3, Bool.true_and, Bool.and_false]; rfl, HB.out⟩
       | true =>
         simp only [c3] at e3
         go_wp2
         go_ret
         exact ⟨by simp only [c0, c1, c2, c3, Bool.true_and, Bool.and_true]; rfl, HB.out⟩
set_option maxHeartbeats 8000000 in
set_option maxRecDepth 100000 in
theorem SamePatch_x (a0 : ByteArray) (a1 a2 a3 a4 a5 a6 a7 : Int) (a8 : ByteArray) (a9 : Int) (a10 : List ByteArray) (A : Option Addr) (ca : Nat) (b0 : ByteArray) (b1 b2 b3 b4 b5 b6 b7 : Int) (b8 : ByteArray) (b9 : Int) (b10 : List ByteArray) (B : Option Addr) (cb : Nat) (w : World) (hA : Kd.C Kd.string w A a10.length a10) (hca : a10.length ≤ ca) (hB : Kd.C Kd.string w B b10.length b10) (hcb : b10.length ≤ cb) (hl : a10.length ≤ 9000) : Calls Try.prog 39 #[.agg #[.string a0, .int .i64 a1, .int .i64 a2, .int .i64 a3, .int .i64 a4, .int .i64 a5, .int .i64 a6, .int .i64 a7, .string a8, .int .i64 a9, .slice A a10.length ca], .agg #[.string b0, .int .i64 b1, .int .i64 b2, .int .i64 b3, .int .i64 b4, .int .i64 b5, .int .i64 b6, .int .i64 b7, .string b8, .int .i64 b9, .slice B b10.length cb]] w fun e w' => e = .returned (.bool (eqP (⟨a0, a1, ⟨a2, a3, a4⟩, ⟨a5, a6, a7⟩, a8, a9, a10⟩ : S55) (⟨b0, b1, ⟨b2, b3, b4⟩, ⟨b5, b6, b7⟩, b8, b9, b10⟩ : S55))) ∧ Below w.heap.size w w' := by
 have HB := Lib.hid (below_alloc (below_alloc (Below.refl w.heap.size w) (.cells #[.string a0, .int .i64 a1, .int .i64 a2, .int .i64 a3, .int .i64 a4, .int .i64 a5, .int .i64 a6, .int .i64 a7, .string a8, .int .i64 a9, .slice A a10.length ca] 55 (0, 0))) (.cells #[.string b0, .int .i64 b1, .int .i64 b2, .int .i64 b3, .int .i64 b4, .int .i64 b5, .int .i64 b6, .int .i64 b7, .string b8, .int .i64 b9, .slice B b10.length cb] 55 (0, 0)))
 have HXA := Lib.hid (blk_alloc (blk_new w (.cells #[.string a0, .int .i64 a1, .int .i64 a2, .int .i64 a3, .int .i64 a4, .int .i64 a5, .int .i64 a6, .int .i64 a7, .string a8, .int .i64 a9, .slice A a10.length ca] 55 (0, 0))) (.cells #[.string b0, .int .i64 b1, .int .i64 b2, .int .i64 b3, .int .i64 b4, .int .i64 b5, .int .i64 b6, .int .i64 b7, .string b8, .int .i64 b9, .slice B b10.length cb] 55 (0, 0)))
 have HXB := Lib.hid (blk_new (w.alloc (.cells #[.string a0, .int .i64 a1, .int .i64 a2, .int .i64 a3, .int .i64 a4, .int .i64 a5, .int .i64 a6, .int .i64 a7, .string a8, .int .i64 a9, .slice A a10.length ca] 55 (0, 0))) (.cells #[.string b0, .int .i64 b1, .int .i64 b2, .int .i64 b3, .int .i64 b4, .int .i64 b5, .int .i64 b6, .int .i64 b7, .string b8, .int .i64 b9, .slice B b10.length cb] 55 (0, 0)))
 rw [size1 w] at HXB
 obtain ⟨k, hk⟩ := (SameTexts_all a10 b10 hl).rounds
 have HK := Lib.hid hk
 have HCA := Lib.hid (Kd.C_below hA HB.out)
 have HCB := Lib.hid (Kd.C_below hB HB.out)
 have HLA := Lib.hid hca
 have HLB := Lib.hid hcb
 clear hk hA hca hB hcb hl
 unfold eqP
 dsimp only
 go_enter Try.func39, Try.ntmps39
 go_upto_region 1 with fail
 generalize (w.alloc (.cells #[.string a0, .int .i64 a1, .int .i64 a2, .int .i64 a3, .int .i64 a4, .int .i64 a5, .int .i64 a6, .int .i64 a7, .string a8, .int .i64 a9, .slice A a10.length ca] 55 (0, 0))).alloc (.cells #[.string b0, .int .i64 b1, .int .i64 b2, .int .i64 b3, .int .i64 b4, .int .i64 b5, .int .i64 b6, .int .i64 b7, .string b8, .int .i64 b9, .slice B b10.length cb] 55 (0, 0)) = W at HB HXA HXB HCA HCB ⊢
 have x0 := ck HXA.out 0 _ rfl
 have y0 := ck HXB.out 0 _ rfl
 have x1 := ck HXA.out 1 _ rfl
 have y1 := ck HXB.out 1 _ rfl
 have x2 := ck HXA.out 2 _ rfl
 have y2 := ck HXB.out 2 _ rfl
 have x3 := ck HXA.out 3 _ rfl
 have y3 := ck HXB.out 3 _ rfl
 have x4 := ck HXA.out 4 _ rfl
 have y4 := ck HXB.out 4 _ rfl
 have x5 := ck HXA.out 5 _ rfl
 have y5 := ck HXB.out 5 _ rfl
 have x6 := ck HXA.out 6 _ rfl
 have y6 := ck HXB.out 6 _ rfl
 have x7 := ck HXA.out 7 _ rfl
 have y7 := ck HXB.out 7 _ rfl
 have x8 := ck HXA.out 8 _ rfl
 have y8 := ck HXB.out 8 _ rfl
 have x9 := ck HXA.out 9 _ rfl
 have y9 := ck HXB.out 9 _ rfl
 have x10 := ck HXA.out 10 _ rfl
 have y10 := ck HXB.out 10 _ rfl
 cases cN : eqN (⟨a0, a1, ⟨a2, a3, a4⟩, ⟨a5, a6, a7⟩, a8, a9, a10⟩ : S55) (⟨b0, b1, ⟨b2, b3, b4⟩, ⟨b5, b6, b7⟩, b8, b9, b10⟩ : S55) with
 | false =>
   go_wp2_with (go_at_call 40; refine (Rivals_x a0 a1 a2 a3 a4 a5 a6 a7 a8 a9 a10 A ca b0 b1 b2 b3 b4 b5 b6 b7 b8 b9 b10 B cb _).mono ?_; rintro e W1 ⟨rfl, hb⟩; have HB1 := Lib.hid (HB.out.trans (hb.mono HB.out.size)); have HCA1 := Lib.hid (Kd.C_below HCA.out hb); have HCB1 := Lib.hid (Kd.C_below HCB.out hb); have u8 := (hb.cell (blk_lt HXA.out)).trans x8; have v8 := (hb.cell (blk_lt HXB.out)).trans y8; have u9 := (hb.cell (blk_lt HXA.out)).trans x9; have v9 := (hb.cell (blk_lt HXB.out)).trans y9; have u10 := (hb.cell (blk_lt HXA.out)).trans x10; have v10 := (hb.cell (blk_lt HXB.out)).trans y10; clear hb; simp only [cN])
   go_ret
   exact ⟨by simp only [cN, Bool.false_and]; rfl, HB1.out⟩
 | true =>
   cases c8 : (a8.toList == b8.toList) with
   | false =>
     go_wp2_with (go_at_call 40; refine (Rivals_x a0 a1 a2 a3 a4 a5 a6 a7 a8 a9 a10 A ca b0 b1 b2 b3 b4 b5 b6 b7 b8 b9 b10 B cb _).mono ?_; rintro e W1 ⟨rfl, hb⟩; have HB1 := Lib.hid (HB.out.trans (hb.mono HB.out.size)); have HCA1 := Lib.hid (Kd.C_below HCA.out hb); have HCB1 := Lib.hid (Kd.C_below HCB.out hb); have u8 := (hb.cell (blk_lt HXA.out)).trans x8; have v8 := (hb.cell (blk_lt HXB.out)).trans y8; have u9 := (hb.cell (blk_lt HXA.out)).trans x9; have v9 := (hb.cell (blk_lt HXB.out)).trans y9; have u10 := (hb.cell (blk_lt HXA.out)).trans x10; have v10 := (hb.cell (blk_lt HXB.out)).trans y10; clear hb; simp only [cN])
     go_ret
     exact ⟨by simp only [cN, c8, Bool.true_and, Bool.false_and]; rfl, HB1.out⟩
   | true =>
     cases c9 : (a9 == b9) with
     | false =>
       go_wp2_with (go_at_call 40; refine (Rivals_x a0 a1 a2 a3 a4 a5 a6 a7 a8 a9 a10 A ca b0 b1 b2 b3 b4 b5 b6 b7 b8 b9 b10 B cb _).mono ?_; rintro e W1 ⟨rfl, hb⟩; have HB1 := Lib.hid (HB.out.trans (hb.mono HB.out.size)); have HCA1 := Lib.hid (Kd.C_below HCA.out hb); have HCB1 := Lib.hid (Kd.C_below HCB.out hb); have u8 := (hb.cell (blk_lt HXA.out)).trans x8; have v8 := (hb.cell (blk_lt HXB.out)).trans y8; have u9 := (hb.cell (blk_lt HXA.out)).trans x9; have v9 := (hb.cell (blk_lt HXB.out)).trans y9; have u10 := (hb.cell (blk_lt HXA.out)).trans x10; have v10 := (hb.cell (blk_lt HXB.out)).trans y10; clear hb; simp only [cN])
       go_ret
       exact ⟨by simp only [cN, c8, c9, Bool.true_and, Bool.false_and]; rfl, HB1.out⟩
     | true =>
       go_wp2_with (first
        | (go_at_call 40; refine (Rivals_x a0 a1 a2 a3 a4 a5 a6 a7 a8 a9 a10 A ca b0 b1 b2 b3 b4 b5 b6 b7 b8 b9 b10 B cb _).mono ?_; rintro e W1 ⟨rfl, hb⟩; have HB1 := Lib.hid (HB.out.trans (hb.mono HB.out.size)); have HCA1 := Lib.hid (Kd.C_below HCA.out hb); have HCB1 := Lib.hid (Kd.C_below HCB.out hb); have u8 := (hb.cell (blk_lt HXA.out)).trans x8; have v8 := (hb.cell (blk_lt HXB.out)).trans y8; have u9 := (hb.cell (blk_lt HXA.out)).trans x9; have v9 := (hb.cell (blk_lt HXB.out)).trans y9; have u10 := (hb.cell (blk_lt HXA.out)).trans x10; have v10 := (hb.cell (blk_lt HXB.out)).trans y10; clear hb; simp only [cN])
        | (go_at_call 80; refine (abugidaref02_SameTexts.calls k A ca a10 B cb b10 _ _ HCA1.out HLA.out HCB1.out HLB.out HK.out).mono ?_; rintro e W2 ⟨rfl, hd⟩; have hb := hd.below; have HB2 := Lib.hid (HB1.out.trans (hb.mono HB1.out.size)); clear hb hd))
       go_ret
       exact ⟨by simp only [cN, c8, c9, Bool.true_and]; rfl, HB2.out⟩
theorem elem55C {ga n : Nat} {w : World} {l : List S55} {j : Nat} {x : S55} (hC : Kd.C k55 w (some ⟨ga, 0, none⟩) n l) (hx : l[j]? = some x) :
 ∃ A10 c10, w.rangeAt ga (j * 11) [.string x.f0, .int .i64 x.f1, .int .i64 x.f2.f0, .int .i64 x.f2.f1, .int .i64 x.f2.f2, .int .i64 x.f3.f0, .int .i64 x.f3.f1, .int .i64 x.f3.f2, .string x.f4, .int .i64 x.f5, .slice A10 x.f6.length c10] ∧ x.f6.length ≤ c10 ∧ Kd.string.C w A10 x.f6.length x.f6 := by
 obtain ⟨hn, _, h3⟩ := hC
 have hj : j < l.length := (List.getElem?_eq_some_iff.1 hx).1
 obtain ⟨ad, e1, h4⟩ := h3 (by omega)
 cases e1
 obtain ⟨cs, h5, h6, h7⟩ := h4 j x hx
 obtain ⟨A10, c10, rfl, h8, h9⟩ := k55_open h6
 refine ⟨A10, c10, fun i u hu => ?_, h8, h9⟩
 have := h7 i u hu
 rw [Addr.add_mid, Nat.zero_add] at this
 exact this
def eqPs : List S55 → List S55 → Bool
 | [], [] => true
 | a :: l, b :: m => eqP a b && eqPs l m
 | _, _ => false
theorem eqPs_len : ∀ (l m : List S55), l.length ≠ m.length → eqPs l m = false
 | [], [], h => absurd rfl h
 | [], _ :: _, _ => rfl
 | _ :: _, [], _ => rfl
 | a :: l, b :: m, h => by rw [eqPs, eqPs_len l m (fun e => h (by simp [e])), Bool.and_false]
theorem eqPs_drop (l m : List S55) (j : Nat) (a b : S55) (ha : l[j]? = some a) (hb : m[j]? = some b) : eqPs (l.drop j) (m.drop j) = (eqP a b && eqPs (l.drop (j + 1)) (m.drop (j + 1))) := by
 have hj := (List.getElem?_eq_some_iff.1 ha).1
 have hk := (List.getElem?_eq_some_iff.1 hb).1
 rw [List.getElem?_eq_getElem hj] at ha
 rw [List.getElem?_eq_getElem hk] at hb
 rw [List.drop_eq_getElem_cons hj, List.drop_eq_getElem_cons hk, Option.some.inj ha, Option.some.inj hb]
 rfl
set_option maxHeartbeats 8000000 in
set_option maxRecDepth 100000 in
theorem SamePatches_c (l m : List S55) (A0 : Option Addr) (c0 : Nat) (A1 : Option Addr) (c1 : Nat) (w : World) (hC : Kd.C k55 w A0 l.length l) (hA : 0 < l.length → ∃ gk, A0 = some ⟨gk, 0, none⟩) (hD : Kd.C k55 w A1 m.length m) (hB : 0 < m.length → ∃ gk, A1 = some ⟨gk, 0, none⟩) (hl : l.length ≤ 9000) (hp : ∀ p ∈ l, p.f6.length ≤ 9000) :
 Calls Try.prog 24 #[.slice A0 l.length c0, .slice A1 m.length c1] w fun e w' => e = .returned (.bool (eqPs l m)) ∧ Below w.heap.size w w' := by
 have HC := Lib.hid hC
 have HD := Lib.hid hD
 have HA := Lib.hid hA
 have HB := Lib.hid hB
 have HL := Lib.hid hl
 have HP := Lib.hid hp
 have HBB := Lib.hid (Below.refl w.heap.size w)
 clear hC hA hD hB hl hp
 by_cases hlen : l.length = m.length
 · have d0 : ((l.length : Int) != (m.length : Int)) = false := bne_eq_false_iff_eq.mpr (by omega)
   have d0' : ((l.length : Int) == (m.length : Int)) = true := beq_iff_eq.mpr (by omega)
   have HLEN := Lib.hid hlen
   clear hlen
   go_enter Try.func24, Try.ntmps24
   go_wp2
   go_loopg [5] (l.length + 1) (fun kq v5 w' => ∃ (j : Nat), v5 = .int .i64 (j : Int) ∧ j + kq = l.length + 1 ∧ j ≤ l.length ∧ Below w.heap.size w w' ∧ eqPs (l.drop j) (m.drop j) = eqPs l m)
   case atStart => exact ⟨0, rfl, by omega, by omega, HBB.out, rfl⟩
   case round =>
    obtain ⟨j, rfl, hj, hjl, hb, he⟩ := hrel
    have HB0 := Lib.hid hb
    have HBr := Lib.hid hb.drew
    have HE := Lib.hid he
    have HJ := Lib.hid (show j + gk = l.length + 1 ∧ j ≤ l.length from ⟨hj, hjl⟩)
    by_cases cj : j < l.length
    · have d1 : decide ((j : Int) < (l.length : Int)) = true := decide_eq_true (by omega)
      obtain ⟨a, ha⟩ : ∃ x, l[j]? = some x := ⟨l[j], List.getElem?_eq_getElem cj⟩
      obtain ⟨b, hb'⟩ : ∃ x, m[j]? = some x := ⟨m[j]'zad3, List.getElem?_eq_getElem zad3⟩
      obtain ⟨ga, rfl⟩ := HA.out (by omega)
      obtain ⟨gb, rfl⟩ := HB.out zad3
      obtain ⟨A, ca, hra, hca, hCA⟩ := elem55C (Kd.C_below HC.out HBr.out) ha
      obtain ⟨B, cb, hrb, hcb, hCB⟩ := elem55C (Kd.C_below HD.out HBr.out) hb'
      have HCA := Lib.hid (Kd.C_below HC.out HBr.out)
      have HCB := Lib.hid (Kd.C_below HD.out HBr.out)
      have HST := Lib.hid (eqPs_drop l m j a b ha hb')
      have HlA := Lib.hid (HP.out a (List.mem_of_getElem? ha))
      obtain ⟨a0, a1, ⟨a2, a3, a4⟩, ⟨a5, a6, a7⟩, a8, a9, a10⟩ := a
      obtain ⟨b0, b1, ⟨b2, b3, b4⟩, ⟨b5, b6, b7⟩, b8, b9, b10⟩ := b
      simp only at hra hca hCA hrb hcb hCB
      have hCA1 := Lib.hid hCA
      have hCB1 := Lib.hid hCB
      have HcA := Lib.hid hca
      have HcB := Lib.hid hcb
      have x0 := hra 0 _ rfl
      have y0 := hrb 0 _ rfl
      rw [Nat.add_zero] at x0 y0
      have x1 := hra 1 _ rfl
      have y1 := hrb 1 _ rfl
      have x2 := hra 2 _ rfl
      have y2 := hrb 2 _ rfl
      have x3 := hra 3 _ rfl
      have y3 := hrb 3 _ rfl
      have x4 := hra 4 _ rfl
      have y4 := hrb 4 _ rfl
      have x5 := hra 5 _ rfl
      have y5 := hrb 5 _ rfl
      have x6 := hra 6 _ rfl
      have y6 := hrb 6 _ rfl
      have x7 := hra 7 _ rfl
      have y7 := hrb 7 _ rfl
      have x8 := hra 8 _ rfl
      have y8 := hrb 8 _ rfl
      have x9 := hra 9 _ rfl
      have y9 := hrb 9 _ rfl
      have x10 := hra 10 _ rfl
      have y10 := hrb 10 _ rfl
      have i1 : ((0 : Int) ≤ (j : Int)) = True := eq_true (by omega)
      have i2 : ((j : Int) < (l.length : Int)) = True := eq_true (by omega)
      have i3 : ((j : Int) < (m.length : Int)) = True := eq_true zad3
      have i4 : (j < l.length) = True := eq_true (by omega)
      have i5 : (j < m.length) = True := eq_true zad3
      have e1 : wrap64 ((j : Int) + 1) = ((j + 1 : Nat) : Int) := by rw [rl64 (by have := HL.out; omega) (by have := HL.out; omega)]; omega
      clear ha hb' hra hrb hca hcb hCA hCB hb he hj hjl
      go_wp2
      refine start_ (n := 10) (S := fun w' => w'.cell? ⟨ga, j * 11, none⟩ = some (.string a0) ∧ w'.cell? ⟨ga, j * 11 + 1, none⟩ = some (.int .i64 a1) ∧ w'.cell? ⟨ga, j * 11 + 2, none⟩ = some (.int .i64 a2) ∧ w'.cell? ⟨ga, j * 11 + 3, none⟩ = some (.int .i64 a3) ∧ w'.cell? ⟨ga, j * 11 + 4, none⟩ = some (.int .i64 a4) ∧ w'.cell? ⟨ga, j * 11 + 5, none⟩ = some (.int .i64 a5) ∧ w'.cell? ⟨ga, j * 11 + 6, none⟩ = some (.int .i64 a6) ∧ w'.cell? ⟨ga, j * 11 + 7, none⟩ = some (.int .i64 a7) ∧ w'.cell? ⟨ga, j * 11 + 8, none⟩ = some (.string a8) ∧ w'.cell? ⟨ga, j * 11 + 9, none⟩ = some (.int .i64 a9) ∧ w'.cell? ⟨ga, j * 11 + 10, none⟩ = some (.slice A a10.length ca) ∧ w'.cell? ⟨gb, j * 11, none⟩ = some (.string b0) ∧ w'.cell? ⟨gb, j * 11 + 1, none⟩ = some (.int .i64 b1) ∧ w'.cell? ⟨gb, j * 11 + 2, none⟩ = some (.int .i64 b2) ∧ w'.cell? ⟨gb, j * 11 + 3, none⟩ = some (.int .i64 b3) ∧ w'.cell? ⟨gb, j * 11 + 4, none⟩ = some (.int .i64 b4) ∧ w'.cell? ⟨gb, j * 11 + 5, none⟩ = some (.int .i64 b5) ∧ w'.cell? ⟨gb, j * 11 + 6, none⟩ = some (.int .i64 b6) ∧ w'.cell? ⟨gb, j * 11 + 7, none⟩ = some (.int .i64 b7) ∧ w'.cell? ⟨gb, j * 11 + 8, none⟩ = some (.string b8) ∧ w'.cell? ⟨gb, j * 11 + 9, none⟩ = some (.int .i64 b9) ∧ w'.cell? ⟨gb, j * 11 + 10, none⟩ = some (.slice B b10.length cb)) (ds := []) #[false, false, false, false, false, false, false, false, false, false] (by kernel_rfl) rfl rfl ⟨x0, x1, x2, x3, x4, x5, x6, x7, x8, x9, x10, y0, y1, y2, y3, y4, y5, y6, y7, y8, y9, y10⟩ (fun hHeld => ?_)
      generalize wr.drew = wd at HBr HCA HCB hCA1 hCB1 x0 y0 x1 y1 x2 y2 x3 y3 x4 y4 x5 y5 x6 y6 x7 y7 x8 y8 x9 y9 x10 y10 hHeld ⊢; have HX := Lib.hid (Below.refl wd.heap.size wd)
      refine pA 0 (some 17) rfl rfl zad0 zad1 ?_
      refine pA 1 (some 18) rfl rfl zad0 zad1 ?_
      refine pA 2 (some 19) rfl rfl zad0 zad1 ?_
      refine pA 4 (some 21) rfl rfl zad0 zad1 ?_
      refine pA 5 (some 22) rfl rfl zad0 zad1 ?_
      refine pA 6 (some 23) rfl rfl zad0 zad1 ?_
      refine tA 3 (some 20) rfl rfl zad2 hHeld zad1 ?_
      refine tA 7 (some 24) rfl rfl zad2 hHeld zad1 ?_
      refine oA 8 (some 25) rfl rfl (fun K hK => ?_)
      refine goes_ Try.func39 (by kernel_rfl) rfl #[.agg #[.string a0, .int .i64 a1, .int .i64 a2, .int .i64 a3, .int .i64 a4, .int .i64 a5, .int .i64 a6, .int .i64 a7, .string a8, .int .i64 a9, .slice A a10.length ca], .agg #[.string b0, .int .i64 b1, .int .i64 b2, .int .i64 b3, .int .i64 b4, .int .i64 b5, .int .i64 b6, .int .i64 b7, .string b8, .int .i64 b9, .slice B b10.length cb]] (by rfl) rfl rfl (by simp only [List.map_toArray, List.map_cons, List.map_nil]; rfl) ?_
      with_reducible refine (SamePatch_x a0 a1 a2 a3 a4 a5 a6 a7 a8 a9 a10 A ca b0 b1 b2 b3 b4 b5 b6 b7 b8 b9 b10 B cb _ hCA1.out HcA.out hCB1.out HcB.out HlA.out).mono ?_
      rintro e wx ⟨rfl, hbx⟩
      refine ⟨_, rfl, ?_⟩
      have HBx := Lib.hid hbx
      refine hK.out _ _ ⟨zadp hbx x0, zadp hbx x1, zadp hbx x2, zadp hbx x3, zadp hbx x4, zadp hbx x5, zadp hbx x6, zadp hbx x7, zadp hbx x8, zadp hbx x9, zadp hbx x10, zadp hbx y0, zadp hbx y1, zadp hbx y2, zadp hbx y3, zadp hbx y4, zadp hbx y5, zadp hbx y6, zadp hbx y7, zadp hbx y8, zadp hbx y9, zadp hbx y10⟩ (fun hHeld => norm_ (by show Act.put _ (some _) _ = _; simp only [Act.put, nS]; rfl) ?_)
      clear hK K
      refine pA 9 (some 26) rfl rfl zad0 zad1 ?_
      refine done_ (by kernel_rfl) ?_
      cases cE : eqP (⟨a0, a1, ⟨a2, a3, a4⟩, ⟨a5, a6, a7⟩, a8, a9, a10⟩ : S55) (⟨b0, b1, ⟨b2, b3, b4⟩, ⟨b5, b6, b7⟩, b8, b9, b10⟩ : S55) with
      | true =>
        go_wp2
        cases gk with
        | zero => exact absurd HJ.out.1 (by omega)
        | succ kk =>
          go_roundg kk
          case measure => omega
          case rel => exact ⟨j + 1, by first | rw [e1] | rfl, by have := HJ.out; omega, by omega, HBr.out.trans (HBx.out.mono HBr.out.size), by rw [← HE.out, HST.out, cE, Bool.true_and]⟩
      | false =>
        go_wp2
        go_ret
        exact ⟨by rw [← HE.out, HST.out, cE, Bool.false_and]; rfl, HBr.out.trans (HBx.out.mono HBr.out.size)⟩
    · have d1 : decide ((j : Int) < (l.length : Int)) = false := decide_eq_false (by omega)
      have hje : j = l.length := by omega
      clear hb he hj hjl
      go_wp2
      go_ret
      refine ⟨?_, HB0.out⟩
      rw [← HE.out, List.drop_of_length_le (by omega), List.drop_of_length_le zad3]
      rfl
 · have d0 : ((l.length : Int) != (m.length : Int)) = true := bne_iff_ne.mpr (by omega)
   have d0' : ((l.length : Int) == (m.length : Int)) = false := beq_eq_false_iff_ne.mpr (by omega)
   have HF := Lib.hid (eqPs_len l m hlen)
   clear hlen
   go_enter Try.func24, Try.ntmps24
   go_wp2
   go_ret
   exact ⟨by rw [HF.out]; rfl, HBB.out⟩
def eqKs : List S52 → List S52 → Bool
 | [], [] => true
 | a :: l, b :: m => eqK a b && eqKs l m
 | _, _ => false
theorem eqK_iff (a b : S52) : eqK a b = true ↔ a = b := by
 obtain ⟨a0, a1, a2⟩ := a
 obtain ⟨b0, b1, b2⟩ := b
 simp [eqK]
theorem eqKs_iff : ∀ (l m : List S52), eqKs l m = true ↔ l = m
 | [], [] => by simp [eqKs]
 | [], _ :: _ => by simp [eqKs]
 | _ :: _, [] => by simp [eqKs]
 | a :: l, b :: m => by simp [eqKs, eqK_iff, eqKs_iff l m]
theorem eqP_iff (a b : S55) : eqP a b = true ↔ a = b := by
 obtain ⟨a0, a1, a2, a3, a4, a5, a6⟩ := a
 obtain ⟨b0, b1, b2, b3, b4, b5, b6⟩ := b
 simp only [eqP, eqN, Bool.and_eq_true, beq_iff_eq, decide_eq_true_eq, toList_eq, eqK_iff, S55.mk.injEq]
 constructor
 · rintro ⟨⟨h1, h2, h3, h4⟩, h5, h6, h7⟩
   exact ⟨h1, h2, h3, h4, h5, h6, h7⟩
 · rintro ⟨h1, h2, h3, h4, h5, h6, h7⟩
   exact ⟨⟨h1, h2, h3, h4⟩, h5, h6, h7⟩
theorem eqPs_iff : ∀ (l m : List S55), eqPs l m = true ↔ l = m
 | [], [] => by simp [eqPs]
 | [], _ :: _ => by simp [eqPs]
 | _ :: _, [] => by simp [eqPs]
 | a :: l, b :: m => by simp [eqPs, eqP_iff, eqPs_iff l m]
def keyV (k : S52) : List Value := [.int .i64 k.f0, .int .i64 k.f1, .int .i64 k.f2]
theorem C_keys (W : World) (ks : List S52) (cs : Array Value) (n : Nat) (hn : ks.length = n) (hcs : (ks.flatMap keyV).toArray = cs) (hl : n ≤ 1000) : Kd.C k52 (W.alloc (.cells cs 52 (0, 0))) (some ⟨W.heap.size, 0, none⟩) n ks := by
 subst hn hcs
 refine ⟨rfl, by omega, fun _ => ⟨_, rfl, fun j p hp => ⟨keyV p, rfl, k52_mk _ p, fun i u hu => ?_⟩⟩⟩
 rw [Addr.add_mid, Nat.zero_add]
 refine ck (blk_new W _) _ _ ?_
 have key : ∀ (l : List S52) (j : Nat) (p : S52) (i : Nat) (u : Value), l[j]? = some p → (keyV p)[i]? = some u → (l.flatMap keyV)[j * 3 + i]? = some u := by
  intro l
  induction l with
  | nil => intro j p i u h; simp at h
  | cons x l ih =>
    intro j p i u h hu
    have hi : i < 3 := (List.getElem?_eq_some_iff.1 hu).1
    cases j with
    | zero =>
      simp only [List.getElem?_cons_zero, Option.some.injEq] at h
      subst h
      rw [List.flatMap_cons, List.getElem?_append_left (by simp [keyV]; omega)]
      simpa using hu
    | succ j =>
      rw [List.flatMap_cons, List.getElem?_append_right (by simp [keyV]; omega)]
      have := ih j p i u (by simpa using h) hu
      rw [← this]
      congr 1
      simp [keyV]
      omega
 show (ks.flatMap keyV).toArray[j * 3 + i]? = some u
 simpa using key ks j p i u hp hu
def patV (x : S55) : List Value := [.string x.f0, .int .i64 x.f1, .int .i64 x.f2.f0, .int .i64 x.f2.f1, .int .i64 x.f2.f2, .int .i64 x.f3.f0, .int .i64 x.f3.f1, .int .i64 x.f3.f2, .string x.f4, .int .i64 x.f5, .slice none 0 0]
theorem C_pats (W : World) (ps : List S55) (cs : Array Value) (n : Nat) (hn : ps.length = n) (h0 : ∀ p ∈ ps, p.f6 = []) (hcs : (ps.flatMap patV).toArray = cs) (hl : n ≤ 1000) : Kd.C k55 (W.alloc (.cells cs 55 (0, 0))) (some ⟨W.heap.size, 0, none⟩) n ps := by
 subst hn hcs
 refine ⟨rfl, by omega, fun _ => ⟨_, rfl, fun j p hp => ⟨patV p, rfl, ?_, fun i u hu => ?_⟩⟩⟩
 · have hp0 := h0 p (List.mem_of_getElem? hp)
   have := k55_mk (W.alloc (.cells (ps.flatMap patV).toArray 55 (0, 0))) p (A10 := none) (c10 := 0) (by rw [hp0]; exact Nat.le_refl _) (by rw [hp0]; exact Kd.C_nil Kd.string _)
   rw [hp0] at this
   exact this
 rw [Addr.add_mid, Nat.zero_add]
 refine ck (blk_new W _) _ _ ?_
 have key : ∀ (l : List S55) (j : Nat) (p : S55) (i : Nat) (u : Value), l[j]? = some p → (patV p)[i]? = some u → (l.flatMap patV)[j * 11 + i]? = some u := by
  intro l
  induction l with
  | nil => intro j p i u h; simp at h
  | cons x l ih =>
    intro j p i u h hu
    have hi : i < 11 := (List.getElem?_eq_some_iff.1 hu).1
    cases j with
    | zero =>
      simp only [List.getElem?_cons_zero, Option.some.injEq] at h
      subst h
      rw [List.flatMap_cons, List.getElem?_append_left (by simp [patV]; omega)]
      simpa using hu
    | succ j =>
      rw [List.flatMap_cons, List.getElem?_append_right (by simp [patV]; omega)]
      have := ih j p i u (by simpa using h) hu
      rw [← this]
      congr 1
      simp [patV]
      omega
 show (ps.flatMap patV).toArray[j * 11 + i]? = some u
 simpa using key ps j p i u hp hu
abbrev fB : ByteArray := ⟨#[102]⟩
abbrev K5 : S52 := ⟨2, 5, 0⟩
def sP (n : Int) (body : ByteArray) : S55 := ⟨fB, 2, ⟨2, n, 0⟩, ⟨0, 0, 0⟩, body, 0, []⟩
theorem IntB_lo (n : Nat) (h : n < 64) : IntB (n : Int) = nums [2 * n] := by
 unfold IntB zig
 rw [if_pos (by omega), show (2 * (n : Int)).toNat = 2 * n by omega, vb_lo (by omega)]
theorem sP_ok (n : Nat) (hn : n < 64) (body : ByteArray) (hb : body.size ≤ 20) : PK (sP n body) ∧ (EncB (sP n body)).size ≤ 200 ∧ 1 ≤ (EncB (sP n body)).size := by
 have h1 := TextB_size fB (by decide)
 have h2 := TextB_size body (by omega)
 have h0 : fB.size = 1 := rfl
 have i0 := IntB_small 0 (by decide) (by decide)
 have i2 := IntB_small 2 (by decide) (by decide)
 have h3 := IntsB_size (ks6 (sP n body)) (show (6 : Nat) ≤ 1000 by decide) (fun x hx => by
  simp only [ks6, sP, List.mem_cons, List.not_mem_nil, or_false] at hx
  rcases hx with rfl | rfl | rfl | rfl | rfl | rfl <;> omega)
 have h6 : (ks6 (sP n body)).length = 6 := rfl
 have h4 : (TextsB (sP n body).f6).size ≤ 10 := by
  show (join TextB ([] : List ByteArray) (IntB ((([] : List ByteArray).length : Nat) : Int))).size ≤ 10
  exact i0
 have p1 := IntB_pos (2 : Int)
 have hz : (EncB (sP n body)).size ≤ 200 ∧ 1 ≤ (EncB (sP n body)).size := by
  unfold EncB
  simp only [ByteArray.size_append]
  have e0 : (sP n body).f0 = fB := rfl
  have e1 : (sP n body).f1 = 2 := rfl
  have e4 : (sP n body).f4 = body := rfl
  have e5 : (sP n body).f5 = 0 := rfl
  rw [e0, e1, e4, e5]
  omega
 have j0 : Pure.I64 0 := ⟨by decide, by decide⟩
 have j2 : Pure.I64 2 := ⟨by decide, by decide⟩
 have jn : Pure.I64 (n : Int) := ⟨by omega, by omega⟩
 exact ⟨⟨⟨(by decide : fB.size ≤ 9000), j2, ⟨j2, jn, j0⟩, ⟨j0, j0, j0⟩, (by omega : body.size ≤ 9000), j0, (by decide : 0 ≤ 9000), fun t ht => absurd ht (by simp [sP]), by omega⟩, ⟨(by decide : fB.size ≤ 9223372036854775807), j2, j2, jn, j0, j0, j0, j0⟩, (by decide : 0 ≤ 1000)⟩, hz⟩
theorem AskB_lit : AskB fB 2 [K5] = ⟨#[6, 97, 115, 107, 2, 102, 4, 2, 4, 10, 0]⟩ := by
 have e3 := IntB_lo 3 (by decide)
 have e1 := IntB_lo 1 (by decide)
 have e2 := IntB_lo 2 (by decide)
 have e5 := IntB_lo 5 (by decide)
 have e0 := IntB_lo 0 (by decide)
 show (((TextB askW ++ TextB fB) ++ IntB ((2 : Nat) : Int)) ++ IntB ((1 : Nat) : Int)) ++ ((IntB ((2 : Nat) : Int) ++ IntB ((5 : Nat) : Int)) ++ IntB ((0 : Nat) : Int)) = _
 show ((((IntB ((3 : Nat) : Int) ++ askW) ++ (IntB ((1 : Nat) : Int) ++ fB)) ++ IntB ((2 : Nat) : Int)) ++ IntB ((1 : Nat) : Int)) ++ ((IntB ((2 : Nat) : Int) ++ IntB ((5 : Nat) : Int)) ++ IntB ((0 : Nat) : Int)) = _
 rw [e3, e1, e2, e5, e0]
 decide +kernel
theorem KOk5 : ∀ k ∈ [K5], KOk k := fun k hk => by
 rw [List.mem_singleton.1 hk]
 exact ⟨⟨by decide, by decide⟩, ⟨by decide, by decide⟩, ⟨by decide, by decide⟩⟩
theorem ask_evs (v : Int) (hv : Pure.I64 v) : Ev (fun k => relay_Ask.f k fB v [K5]) (AskB fB v [K5]) ∧ Ev (fun k => relay_Asked.f k (AskB fB v [K5])) (fB, v, [K5], true) ∧ Ev (fun k => relay_Tell.f k (AskB fB v [K5])) noTell := by
 refine ⟨Ask_ev fB v [K5] (by decide) hv (by decide) KOk5, Asked_ev fB v [K5] (by decide) hv (by decide) KOk5, Tell_ask fB v [K5] ?_⟩
 have h1 := join_size KeyB 30 [K5] (HeadB fB v ([K5].length : Nat)) (fun k hk => KeyB_size (KOk5 k hk))
 have h2 : (HeadB fB v (([K5].length : Nat) : Int)).size ≤ 100 := by
  have a1 := TextB_size askW (by decide)
  have a2 := TextB_size fB (by decide)
  have a3 := IntB_small v hv.1 hv.2
  have a4 := IntB_small (([K5].length : Nat) : Int) (by decide) (by decide)
  have b1 : askW.size = 3 := rfl
  have b2 : fB.size = 1 := rfl
  unfold HeadB
  simp only [ByteArray.size_append]
  omega
 unfold AskB
 have h3 : [K5].length = 1 := rfl
 omega
theorem told_evs (l : List S55) (hl : l.length ≤ 1000) (h : ∀ p ∈ l, PK p) : Ev (fun k => relay_Told.f k l) (ToldB l) ∧ Ev (fun k => relay_Tell.f k (ToldB l)) (l, true) := ⟨Told_ev l (by omega) (fun p hp => (h p hp).ok), Tell_ev l hl (fun p hp => ⟨(h p hp).ok, (h p hp).few⟩)⟩
end Go.Proofs.Ythokkeljfdfppaa.Rl

