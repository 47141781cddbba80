/- RelayPlays. -/
import Derived.Test.YthokkeljfdfppaaRpH
import Derived.Test.YthokkeljfdfppaaRmD
import Derived.Test.YthokkeljfdfppaaMgR
import Derived.Test.YthokkeljfdfppaaMgK
set_option linter.unusedVariables false
set_option linter.unusedSimpArgs false
namespace Go.Proofs.Ythokkeljfdfppaa.Rl
open Go.RowKit Go.Proofs.YthokkeljfdfppaaW.PrintWords Go.Proofs.YthokkeljfdfppaaW.PrintLast Go.Proofs.YthokkeljfdfppaaW.PrintMore Go.Proofs.Ythokkeljfdfppaa.Pb Go.Proofs.Ythokkeljfdfppaa.Gw Go.Proofs.Ythokkeljfdfppaa.Pure Go.Proofs.Ythokkeljfdfppaa.RowA
theorem zbd7 {p : Prop} (h : p := by rintro w' ⟨s0, s1, s2, s3, s4, s5, s6, s7, s8, s9, s10, s11⟩; go_simp; with_reducible rfl) : p := h
theorem zbd6 {p : Prop} (h : p := by have := HI.out; omega) : p := h
theorem zbd5 {p : Prop} (h : p := by have := HJ.out; omega) : p := h
theorem zbd4 {p : Prop} (h : p := by intro w'; go_simp; with_reducible rfl) : p := h
theorem zbd3 {p : Prop} (h : p := by simp only [Act.put, nS]; rfl) : p := h
theorem zbd2 {p : Prop} (h : p := by simp only [List.map_toArray, List.map_cons, List.map_nil]; rfl) : p := h
theorem zbd1 {p : Prop} (h : p := by show Act.put _ (some _) _ = _; simp only [Act.put, nS]; rfl) : p := h
theorem zbd0 {p : Prop} (h : p := by first | (simp only [putAll, Act.put, nS]; done) | (simp only [putAll, Act.put, nS]; rfl)) : p := h
theorem zbdp {w v : World} {p : Addr} {x : Value} (h : Below w.heap.size w v) (hx : w.cell? p = some x) : v.cell? p = some x := (h.cell (World.block_lt_of_cell? _ _ hx)).trans hx
structure PSt (w0 w : World) (gr br g2 : Nat) (most : Int) (N : Nat) (X : List Kp) : Prop where
 own : RS w gr br 2 most N (X.map Kp.p)
 ref : RefX w g2 2 most (fun k => k ≠ g2 ∧ k ≠ gr ∧ k ≠ br) X
 b : Below w0.heap.size w0 w
 lo : w0.heap.size ≤ gr ∧ w0.heap.size ≤ br ∧ w0.heap.size ≤ g2
 ne : g2 ≠ gr ∧ g2 ≠ br
theorem RefX.lt {w : World} {g : Nat} {no bytes : Int} {Q : Nat → Prop} {X : List Kp} (h : RefX w g no bytes Q X) : g < w.heap.size := by
 obtain ⟨_, _, h1, _⟩ := h.cell
 exact blk_lt h1
theorem Only.below2 {w0 w w1 : World} {g b : Nat} (h : Below w0.heap.size w0 w) (o : Only g b w w1) (hg : w0.heap.size ≤ g) (hb : w0.heap.size ≤ b) : Below w0.heap.size w0 w1 := Only.below h o hg hb h.size
theorem PSt.below {w0 w w1 : World} {gr br g2 : Nat} {most : Int} {N : Nat} {X : List Kp} (h : PSt w0 w gr br g2 most N X) (hb : Below w.heap.size w w1) : PSt w0 w1 gr br g2 most N X :=
 ⟨h.own.below hb, h.ref.below hb, h.b.trans (hb.mono h.b.size), h.lo, h.ne⟩
theorem PSt.both {w0 w w1 w2 : World} {gr br g2 : Nat} {most : Int} {N M : Nat} {X X' : List Kp} (h : PSt w0 w gr br g2 most N X) (o1 : Only gr br w w1) (h1 : RS w1 gr br 2 most M (X'.map Kp.p)) (o2 : Only g2 g2 w1 w2) (h2 : RefX w2 g2 2 most (fun k => k ≠ g2 ∧ k ≠ gr ∧ k ≠ br) X') : PSt w0 w2 gr br g2 most M X' := by
 obtain ⟨A, c, hc, _⟩ := h2.cell
 obtain ⟨A0, c0, hc0, _⟩ := h.ref.cell
 have hg := (o1.block g2 (blk_lt hc0) h.ne.1 h.ne.2).trans hc0
 exact ⟨h1.other hg o2, h2, Only.below2 (Only.below2 h.b o1 h.lo.1 h.lo.2.1) o2 h.lo.2.2 h.lo.2.2, h.lo, h.ne⟩
theorem PSt.mid {w0 w w1 : World} {gr br g2 : Nat} {most : Int} {N : Nat} {X : List Kp} (h : PSt w0 w gr br g2 most N X) (o1 : Only gr br w w1) : RefX w1 g2 2 most (fun k => k ≠ g2 ∧ k ≠ gr ∧ k ≠ br) X := h.ref.only o1 h.ne.1 h.ne.2 (fun k hk => hk.2)
theorem PSt.far {w0 w : World} {gr br g2 : Nat} {most : Int} {N : Nat} {X : List Kp} (h : PSt w0 w gr br g2 most N X) : ∀ k, w.heap.size ≤ k → k ≠ g2 ∧ k ≠ gr ∧ k ≠ br := fun k hk => by
 have h1 := h.own.gb
 have h2 := h.ref.lt
 exact ⟨by omega, by omega, by omega⟩
theorem actPlain {w : World} {A : Option Addr} {l : List ActP} (hC : Kd.C kAct w A l.length l) (hn : 0 < l.length) : ∃ gk ok, A = some ⟨gk, ok, none⟩ := by
 obtain ⟨_, _, h3⟩ := hC
 obtain ⟨ad, rfl, h4⟩ := h3 hn
 obtain ⟨x, hx⟩ : ∃ x, l[0]? = some x := ⟨l[0], List.getElem?_eq_getElem hn⟩
 obtain ⟨cs, h5, h6, h7⟩ := h4 0 x hx
 have h6 : cs = acells x := h6
 subst h6
 have h8 := h7 0 _ rfl
 obtain ⟨gb, ob, sp⟩ := ad
 cases sp with
 | none => exact ⟨gb, ob, rfl⟩
 | some s =>
   exfalso
   simp [Addr.add, World.cell?] at h8
   split at h8 <;> simp_all
theorem actCells {w : World} {gk ok n : Nat} {l : List ActP} {j : Nat} {x : ActP} (hC : Kd.C kAct w (some ⟨gk, ok, none⟩) n l) (hx : l[j]? = some x) : w.rangeAt gk (ok + j * 5) [.int .i64 x.what, .int .i64 x.tow, .int .i64 x.q.f0, .int .i64 x.q.f1, .int .i64 x.q.f2] := by
 obtain ⟨h1, _, h3⟩ := hC
 have hj : j < l.length := (List.getElem?_eq_some_iff.1 hx).1
 obtain ⟨ad, e1, h4⟩ := h3 (by omega)
 cases e1
 obtain ⟨cs, h5, h6, h7⟩ := h4 j x hx
 have h6 : cs = acells x := h6
 subst h6
 intro i u hu
 have := h7 i u hu
 rw [Addr.add_mid] at this
 show w.cell? ⟨gk, ok + j * 5 + i, none⟩ = some u
 rw [Nat.add_assoc]
 exact this
theorem budget_w (nb rm : Nat) (most : Int) (h0 : nb ≤ 65535) (h1 : rm < 400) (h2 : most = 1 + (rm : Int)) : IntKind.i64.wrap (nb : Int) = (nb : Int) ∧ IntKind.i64.wrap (1 + (rm : Int)) = most ∧ wrap64 (1 + (rm : Int)) = most := by
 refine ⟨?_, ?_, ?_⟩
 · rw [IntKind.wrap_i64]; omega
 · rw [IntKind.wrap_i64]; omega
 · unfold wrap64; omega
theorem mod_c (a b r : Int) (w : World) (h : abugidaref01_Mod.f a b = some r) : Calls Try.prog 30 #[.int .i64 a, .int .i64 b] w fun e w' => e = .returned (.int .i64 r) ∧ Below w.heap.size w w' := by
 refine (abugidaref01_Mod.calls a b r w h).mono ?_
 rintro e w' ⟨rfl, hb⟩
 exact ⟨rfl, hb.below⟩
theorem PSt.up {w0 w : World} {gr br g2 : Nat} {most : Int} {N M : Nat} {X : List Kp} (h : PSt w0 w gr br g2 most N X) (hM : N ≤ M) : PSt w0 w gr br g2 most M X := ⟨h.own.up hM, h.ref, h.b, h.lo, h.ne⟩
theorem keepOwn {w : World} {g b : Nat} {no bytes : Int} {N : Nat} {L : List S55} (h : RS w g b no bytes N L) (h0 : 0 < bytes) (hbig : bytes ≤ 1099511627776) (hN : N ≤ 100000) (pp : S55) (hp : PK pp) (qA : Option Addr) (pc : Nat) (hr : Kd.C Kd.string w qA pp.f6.length pp.f6) (hc : pp.f6.length ≤ pc) (ec : Int) (he : ec = (keepP bytes L pp).1) :
 Calls Try.prog 31 #[.pointer (some ⟨g, 0, none⟩), .agg #[.string pp.f0, .int .i64 pp.f1, .int .i64 pp.f2.f0, .int .i64 pp.f2.f1, .int .i64 pp.f2.f2, .int .i64 pp.f3.f0, .int .i64 pp.f3.f1, .int .i64 pp.f3.f2, .string pp.f4, .int .i64 pp.f5, .slice qA pp.f6.length pc]] w fun e w' => e = .returned (.int .i64 ec) ∧ Only g b w w' ∧ RS w' g b no bytes (N + 1) (keepP bytes L pp).2 := by
 subst he
 exact Keep_c h h0 hbig hN pp hp qA pc hr hc
theorem keepRef {w : World} {g : Nat} {no bytes : Int} {Q : Nat → Prop} {X : List Kp} (h : RefX w g no bytes Q X) (h0 : 0 < bytes) (hbig : bytes ≤ 1099511627776) (hX : X.length ≤ 1000) (hQ : ∀ k, w.heap.size ≤ k → Q k) (hg : ∀ k, Q k → k ≠ g) (pp : S55) (hp : PK pp) (qA : Option Addr) (pc : Nat) (hr : Kd.C Kd.string w qA pp.f6.length pp.f6) (hc : pp.f6.length ≤ pc) (ec : Int) (he : ec = (keepP bytes (X.map Kp.p) pp).1) :
 Calls Try.prog 32 #[.pointer (some ⟨g, 0, none⟩), .agg #[.string pp.f0, .int .i64 pp.f1, .int .i64 pp.f2.f0, .int .i64 pp.f2.f1, .int .i64 pp.f2.f2, .int .i64 pp.f3.f0, .int .i64 pp.f3.f1, .int .i64 pp.f3.f2, .string pp.f4, .int .i64 pp.f5, .slice qA pp.f6.length pc]] w fun e w' => ∃ X', e = .returned (.int .i64 ec) ∧ X'.map Kp.p = (keepP bytes (X.map Kp.p) pp).2 ∧ RefX w' g no bytes Q X' ∧ Only g g w w' := by
 subst he
 obtain ⟨f0, f1, ⟨k1, k2, k3⟩, ⟨b1, b2, b3⟩, f4, f5, f6⟩ := pp
 exact refKeep_x h h0 hbig hX hQ hg f0 f1 k1 k2 k3 b1 b2 b3 f4 f5 f6 hp qA pc hr hc
theorem manyOwn {w : World} {g b : Nat} {no bytes : Int} {N : Nat} {X : List Kp} (h : RS w g b no bytes N (X.map Kp.p)) :
 Calls Try.prog 35 #[.pointer (some ⟨g, 0, none⟩)] w fun e w' => e = .returned (.int .i64 (X.length : Int)) ∧ Below w.heap.size w w' := by
 have := Many_s h
 rw [List.length_map] at this
 exact this
theorem Answer.only {w w1 : World} {lo g : Nat} {A : Option Addr} {n : Nat} {a : Option ByteArray} (h : Answer w lo A n a) (ho : Only g g w w1) (hg : ∀ k, lo ≤ k → k ≠ g) : Answer w1 lo A n a := by
 rcases h with h | ⟨gm, t, h1, h2, h3, h4, h5⟩
 · exact .inl h
 · exact .inr ⟨gm, t, h1, h2, h3, h4, (ho.block gm (blk_lt h5) (hg gm h4) (hg gm h4)).trans h5⟩
theorem ne68 (t : ByteArray) (w : World) : (binOp .neq 68 (.agg #[.int .i64 2, .int .i64 1, .string t]) (.agg #[.int .i64 2, .int .i64 1, .string t])).run Try.prog w = .ok (.bool false) w := by
 have hu68 := Try.underlying68
 go_simp
theorem ask_keys {p : S55} (h : POk p) : ∀ k ∈ [p.f2, ⟨2, 1, 0⟩, (⟨1, 0, 0⟩ : S52)], KOk k := fun k hk => by
 have r : ∀ x : Int, -1000 ≤ x → x ≤ 1000 → I64 x := fun x a b => ⟨by omega, by omega⟩
 simp only [List.mem_cons, List.not_mem_nil, or_false] at hk
 rcases hk with rfl | rfl | rfl
 · exact h.f2
 · exact ⟨r 2 (by omega) (by omega), r 1 (by omega) (by omega), r 0 (by omega) (by omega)⟩
 · exact ⟨r 1 (by omega) (by omega), r 0 (by omega) (by omega), r 0 (by omega) (by omega)⟩
theorem plA {w v : World} {p : Addr} {x : Value} {o : Obj} (h : Below w.heap.size w v) (hx : w.cell? p = some x) : (v.alloc o).cell? p = some x := ((below_alloc h o).cell (World.block_lt_of_cell? _ _ hx)).trans hx
theorem inf68 {cs : Array Value} (h : cs.size = 3) : (Try.prog.info? 68).map (·.size) = some cs.size := by rw [h]; kernel_rfl
theorem one68 {a b : Int} {s : ByteArray} : (#[Value.int .i64 a, .int .i64 b, .string s] : Array Value).all (·.oneCell') = true := by simp [Value.oneCell']
theorem C_two {W : World} {gs : Nat} (p1 p2 : S55) (A1 A2 : Option Addr) (c1 c2 : Nat) (h : W.heap[gs]? = some (.cells (pcells p1 A1 c1 ++ pcells p2 A2 c2).toArray 55 (0, 0))) (h1 : p1.f6.length ≤ c1) (h2 : Kd.C Kd.string W A1 p1.f6.length p1.f6) (h3 : p2.f6.length ≤ c2) (h4 : Kd.C Kd.string W A2 p2.f6.length p2.f6) : Kd.C k55 W (some ⟨gs, 0, none⟩) 2 [p1, p2] := by
 refine ⟨rfl, by decide, fun _ => ⟨_, rfl, fun j p hp => ?_⟩⟩
 match j, hp with
 | 0, hp =>
   have hp : p1 = p := by simpa using hp
   subst hp
   refine ⟨pcells p1 A1 c1, rfl, k55_mk W p1 h1 h2, fun i u hu => ?_⟩
   rw [Addr.add_mid, Nat.zero_add]
   refine ck h _ _ ?_
   rw [show 0 * k55.sz + i = i by omega, List.getElem?_toArray, List.getElem?_append_left (List.getElem?_eq_some_iff.1 hu).1]
   exact hu
 | 1, hp =>
   have hp : p2 = p := by simpa using hp
   subst hp
   refine ⟨pcells p2 A2 c2, rfl, k55_mk W p2 h3 h4, fun i u hu => ?_⟩
   rw [Addr.add_mid, Nat.zero_add]
   refine ck h _ _ ?_
   rw [List.getElem?_toArray, List.getElem?_append_right (by show 11 ≤ 1 * 11 + i; omega), show 1 * k55.sz + i - (pcells p1 A1 c1).length = i by show 1 * 11 + i - 11 = i; omega]
   exact hu
theorem told2 (p1 p2 : S55) (A1 A2 : Option Addr) (c1 c2 : Nat) (m1 : MadeP p1) (m2 : MadeP p2) (gs : Nat) (W : World) (h : W.heap[gs]? = some (.cells (pcells p1 A1 c1 ++ pcells p2 A2 c2).toArray 55 (0, 0))) (h1 : p1.f6.length ≤ c1) (h2 : Kd.C Kd.string W A1 p1.f6.length p1.f6) (h3 : p2.f6.length ≤ c2) (h4 : Kd.C Kd.string W A2 p2.f6.length p2.f6) :
 Calls Try.prog 23 #[.slice (some ⟨gs, 0, none⟩) 2 2] W fun e w' => e = .returned (.string (ToldB [p1, p2])) ∧ Below W.heap.size W w' := by
 obtain ⟨k, hk⟩ := (refTold_ev [p1, p2] (by simp) (fun p hp => by
  rcases List.mem_cons.1 hp with rfl | hp
  · exact (made_pk m1).ok
  · rw [List.mem_singleton.1 hp]; exact (made_pk m2).ok)).rounds
 exact abugidaref35_Told.calls k _ 2 [p1, p2] _ W (C_two p1 p2 A1 A2 c1 c2 h h1 h2 h3 h4) (by simp) hk
set_option maxHeartbeats 32000000 in
set_option maxRecDepth 100000 in
theorem plays_walk (w : World) (bu : Int) (hbu : 0 ≤ bu ∧ bu ≤ 65535) (A0 : Option Addr) (c0 : Nat) (l0 : List ActP) (hC0 : Kd.C kAct w A0 l0.length l0) :
 Calls Try.prog 7 #[.int .u16 bu, .slice A0 l0.length c0] w fun e w' => e = .returned (.bool true) ∧ Below w.heap.size w w' := by
 obtain ⟨nb, rfl⟩ : ∃ n : Nat, bu = (n : Int) := ⟨bu.toNat, by omega⟩
 obtain ⟨rm, hrm⟩ : ∃ r, r = nb % 400 := ⟨_, rfl⟩
 obtain ⟨most, hmost⟩ : ∃ x : Int, x = 1 + (rm : Int) := ⟨_, rfl⟩
 have hbm : rm < 400 := by omega
 have HWR := Lib.hid (budget_w nb rm most (by omega) hbm hmost)
 have hmod : ((nb : Int).tmod 400) = (rm : Int) := by rw [hrm]; rfl
 have HPOS := Lib.hid (show 0 < most from by omega)
 have HMO := Lib.hid (show 1 ≤ most ∧ most ≤ 400 from by omega)
 have HPL := Lib.hid (show 0 < l0.length → ∃ gk ok, A0 = some ⟨gk, ok, none⟩ from fun hn => actPlain hC0 hn)
 have HC0 := Lib.hid hC0
 have HBIG := Lib.hid (show most ≤ 1099511627776 from by omega)
 clear hC0 hrm hmost hbm hbu
 obtain ⟨m0, m2, m3⟩ := HWR.out
 go_enter Try.func7, Try.ntmps7
 go_upto_region 2 with (go_at_call 14; refine (sanity_c _).mono ?_; rintro e Ws ⟨rfl, hb⟩; have HBs := Lib.hid hb; clear hb)
 go_upto_region 3 with (go_at_call 27; refine (New_c 2 most HPOS.out _).mono ?_; rintro e W3 ⟨gr, br, rfl, hb, hg, hb_, hs⟩; have HGW := Lib.hid (show w.heap.size ≤ gr ∧ w.heap.size ≤ br from ⟨Nat.le_trans HBs.out.size hg, Nat.le_trans HBs.out.size hb_⟩); have HS3 := Lib.hid hs; have HB3 := Lib.hid (HBs.out.trans (hb.mono HBs.out.size)); clear hb hg hb_ hs)
 go_upto_region 4 with (go_at_call 28; refine (refNew_c 2 most HPOS.out _).mono ?_; rintro e W4 ⟨g2, rfl, hg, hx, hb⟩; have HS4 := Lib.hid (show PSt w W4 gr br g2 most 0 [] from ⟨HS3.out.below hb, hx _, HB3.out.trans (hb.mono HB3.out.size), ⟨HGW.out.1, HGW.out.2, Nat.le_trans HB3.out.size hg⟩, by have := HS3.out.gb; omega, by have := HS3.out.gb; omega⟩); clear hb hg hx)
 clear HBs m0 hmod m2 m3 HS3 HB3
 go_wp2
 go_loopg [8] 31 (fun kq v8 w' => ∃ (i : Nat) (X : List Kp), v8 = .int .i64 (i : Int) ∧ i + kq = 31 ∧ i ≤ l0.length ∧ i ≤ 30 ∧ X.length ≤ 2 * i ∧ PSt w w' gr br g2 most (2 * i) X)
 case atStart => exact ⟨0, [], rfl, by omega, by omega, by omega, by simp, HS4.out⟩
 case round =>
  clear HS4
  obtain ⟨i, X, rfl, hi, hil, hi30, hXl, hs⟩ := hrel
  have HJ := Lib.hid (show i + gk = 31 ∧ i ≤ 30 ∧ X.length ≤ 2 * i from ⟨hi, hi30, hXl⟩)
  have HSR := Lib.hid hs
  cases gk with
  | zero => exact absurd HJ.out (by omega)
  | succ kA =>
    by_cases c0 : i < l0.length ∧ i < 30
    · have d1 : decide ((i : Int) < (l0.length : Int)) = true := decide_eq_true (by omega)
      have d2 : decide ((i : Int) < 30) = true := decide_eq_true (by omega)
      have HI := Lib.hid c0
      obtain ⟨gk_, ok_, hA⟩ := HPL.out (by omega)
      subst hA
      obtain ⟨x, hx⟩ : ∃ x, l0[i]? = some x := ⟨l0[i], List.getElem?_eq_getElem c0.1⟩
      have hrg := actCells (Kd.C_below HC0.out HSR.out.b) hx
      obtain ⟨what, tow, ⟨q0, q1, q2⟩⟩ := x
      simp only at hrg
      have HRG := Lib.hid hrg
      have HRQ := Lib.hid (rangeAt_sub hrg 2 (#[.int .i64 q0, .int .i64 q1, .int .i64 q2] : Array Value).toList (fun i u hu => by
       match i, hu with
       | 0, hu => exact hu
       | 1, hu => exact hu
       | 2, hu => exact hu
       | i + 3, hu => simp at hu))
      clear hrg
      have i1 : ((0 : Int) ≤ (i : Int)) = True := eq_true (by omega)
      have i2 : ((i : Int) < (l0.length : Int)) = True := eq_true (by omega)
      have HE1 := Lib.hid (show wrap64 ((i : Int) + 1) = ((i + 1 : Nat) : Int) from by rw [rl64 (by omega) (by omega)]; omega)
      clear hx hi hil hi30 hXl hs c0
      go_upto_region 10 with (first
       | (refine wpList_load_mid rfl 64 (.tmp 40) rfl gk_ (ok_ + i * 5 + 2) rfl (#[.int .i64 q0, .int .i64 q1, .int .i64 q2] : Array Value).toList _ HRQ.out Try.underlying64 rfl (inf3a rfl) ?_)
       | (go_at_call 29; refine (Made_c q0 q1 q2 _).mono ?_; rintro e w1 ⟨pp, qA, pc, hp, rfl, hr, hb⟩; have HMP := Lib.hid hp; have HSP := Lib.hid (HSR.out.below hb); have HPCAP := Lib.hid (Kd.R_reads' hr).2.1; have HFP := Lib.hid (R_F (Kd.R_mono (ok' := fun k => wr.heap.size ≤ k) (Kd.R_bound hr) (fun k hk => hk.2.1))); have HB1 := Lib.hid hb; have HF := Lib.hid (setCells_full #[.string pp.f0, .int .i64 pp.f1, .int .i64 pp.f2.f0, .int .i64 pp.f2.f1, .int .i64 pp.f2.f2, .int .i64 pp.f3.f0, .int .i64 pp.f3.f1, .int .i64 pp.f3.f2, .string pp.f4, .int .i64 pp.f5, .slice qA pp.f6.length pc] (blk_new w1 (.cells ZP 55 (0, 0))) rfl); have HBs := Lib.hid (below_cells (Nat.le_refl _) (#[.string pp.f0, .int .i64 pp.f1, .int .i64 pp.f2.f0, .int .i64 pp.f2.f1, .int .i64 pp.f2.f2, .int .i64 pp.f3.f0, .int .i64 pp.f3.f1, .int .i64 pp.f3.f2, .string pp.f4, .int .i64 pp.f5, .slice qA pp.f6.length pc] : Array Value).toList 0 _ (below_alloc (Below.refl w1.heap.size w1) (.cells ZP 55 (0, 0)))); clear hp hr hb)
       | (refine wpList_store_mid rfl 55 (.tmp 9) (.tmp 42) rfl _ 0 #[.string pp.f0, .int .i64 pp.f1, .int .i64 pp.f2.f0, .int .i64 pp.f2.f1, .int .i64 pp.f2.f2, .int .i64 pp.f3.f0, .int .i64 pp.f3.f1, .int .i64 pp.f3.f2, .string pp.f4, .int .i64 pp.f5, .slice qA pp.f6.length pc] rfl rfl (there_blk (blk_new _ _) rfl) (inf11 rfl) one11 ?_))
      obtain ⟨PB, hPB⟩ : ∃ n, n = w1.heap.size := ⟨_, rfl⟩
      rw [← hPB] at HF HBs
      simp only [← hPB]
      generalize (w1.alloc (.cells ZP 55 (0, 0))).setCells PB 0 (#[.string pp.f0, .int .i64 pp.f1, .int .i64 pp.f2.f0, .int .i64 pp.f2.f1, .int .i64 pp.f2.f2, .int .i64 pp.f3.f0, .int .i64 pp.f3.f1, .int .i64 pp.f3.f2, .string pp.f4, .int .i64 pp.f5, .slice qA pp.f6.length pc] : Array Value).toList = wn at HF HBs ⊢
      have HBn := Lib.hid (hPB ▸ HBs.out : Below w1.heap.size w1 wn)
      have HPB := Lib.hid (show wr.heap.size ≤ PB from by rw [hPB]; exact HB1.out.size)
      have HNE := Lib.hid (HSR.out.far PB HPB.out)
      have HFAR := Lib.hid HSR.out.far
      have HPK := Lib.hid (made_pk HMP.out)
      clear hPB HBs
      have HSn := Lib.hid (HSP.out.below HBn.out)
      have HFn := Lib.hid (Kd.F_below HFP.out HBn.out)
      have HRGn := Lib.hid (rangeAt_below (rangeAt_below HRG.out HB1.out) HBn.out)
      have HBwn := Lib.hid (HB1.out.trans (HBn.out.mono HB1.out.size))
      clear HSP HFP HRG HB1 HBn
      have HSd := Lib.hid (HSn.out.below (below_drew (Below.refl _ _)))
      have HFd := Lib.hid (Kd.F_drew HFn.out)
      have HXd := Lib.hid (show wn.drew.heap[PB]? = _ from HF.out)
      have HRGd := Lib.hid (show wn.drew.rangeAt gk_ (ok_ + i * 5) _ from HRGn.out)
      have HWd := Lib.hid (show wr.heap.size ≤ wn.drew.heap.size from HBwn.out.size)
      have x0 := ck HXd.out 0 _ rfl
      have x1 := ck HXd.out 1 _ rfl
      have x2 := ck HXd.out 2 _ rfl
      have x3 := ck HXd.out 3 _ rfl
      have x4 := ck HXd.out 4 _ rfl
      have x5 := ck HXd.out 5 _ rfl
      have x6 := ck HXd.out 6 _ rfl
      have x7 := ck HXd.out 7 _ rfl
      have x8 := ck HXd.out 8 _ rfl
      have x9 := ck HXd.out 9 _ rfl
      have x10 := ck HXd.out 10 _ rfl
      have z3 := HRGd.out 3 _ rfl
      clear HSn HFn HF HRGn HBwn
      refine start_ (n := 14) (S := fun w' => w'.cell? ⟨PB, 0, none⟩ = some (.string pp.f0) ∧ w'.cell? ⟨PB, 1, none⟩ = some (.int .i64 pp.f1) ∧ w'.cell? ⟨PB, 2, none⟩ = some (.int .i64 pp.f2.f0) ∧ w'.cell? ⟨PB, 3, none⟩ = some (.int .i64 pp.f2.f1) ∧ w'.cell? ⟨PB, 4, none⟩ = some (.int .i64 pp.f2.f2) ∧ w'.cell? ⟨PB, 5, none⟩ = some (.int .i64 pp.f3.f0) ∧ w'.cell? ⟨PB, 6, none⟩ = some (.int .i64 pp.f3.f1) ∧ w'.cell? ⟨PB, 7, none⟩ = some (.int .i64 pp.f3.f2) ∧ w'.cell? ⟨PB, 8, none⟩ = some (.string pp.f4) ∧ w'.cell? ⟨PB, 9, none⟩ = some (.int .i64 pp.f5) ∧ w'.cell? ⟨PB, 10, none⟩ = some (.slice qA pp.f6.length pc) ∧ w'.cell? ⟨gk_, ok_ + i * 5 + 3, none⟩ = some (.int .i64 q1)) (ds := [13]) #[false, false, false, false, false, false, false, false, false, false, false, false, false, false] (by kernel_rfl) rfl rfl ⟨x0, x1, x2, x3, x4, x5, x6, x7, x8, x9, x10, z3⟩ (fun hHeld => ?_)
      generalize wn.drew = wd at HSd HFd HXd HRGd HWd x0 x1 x2 x3 x4 x5 x6 x7 x8 x9 x10 z3 hHeld ⊢; have HBv := Lib.hid (Below.refl wd.heap.size wd)
      refine pA 1 (some 44) rfl rfl zbd4 zbd3 ?_
      refine pA 2 (some 45) rfl rfl zbd4 zbd3 ?_
      refine pA 3 (some 46) rfl rfl zbd4 zbd3 ?_
      refine pA 4 (some 47) rfl rfl zbd4 zbd3 ?_
      refine pA 5 (some 48) rfl rfl zbd4 zbd3 ?_
      refine tA 0 (some 43) rfl rfl zbd7 hHeld zbd3 ?_
      refine tA 6 (some 49) rfl rfl zbd7 hHeld zbd3 ?_
      refine pA 7 (some 50) rfl rfl zbd4 zbd3 ?_
      refine join_ (σ := S55 × Option Addr × Nat × Nat × Nat) 1 #[true, true, true, true, true, true, true, true, true, true, true, true, true, false] (fun s => [(51, .agg #[.string s.1.f0, .int .i64 s.1.f1, .int .i64 s.1.f2.f0, .int .i64 s.1.f2.f1, .int .i64 s.1.f2.f2, .int .i64 s.1.f3.f0, .int .i64 s.1.f3.f1, .int .i64 s.1.f3.f2, .string s.1.f4, .int .i64 s.1.f5, .slice s.2.1 s.1.f6.length s.2.2.1]), (52, .slice (some ⟨s.2.2.2.1, 0, none⟩) 2 2), (53, .string (ToldB [pp, s.1])), (54, .agg #[.int .i64 1, .int .i64 2, .string (ToldB [pp, s.1])]), (10, .pointer (some ⟨s.2.2.2.2, 0, none⟩))]) (fun s w' => Below wd.heap.size wd w' ∧ (MadeP s.1 ∧ s.1.f6.length ≤ s.2.2.1 ∧ Kd.F Kd.string w' (fun k => wd.heap.size ≤ k) s.2.1 s.1.f6.length s.1.f6) ∧ w'.heap[s.2.2.2.2]? = some (.cells #[.int .i64 0, .int .i64 0, .string ⟨#[]⟩] 68 (0, 0)) ∧ wd.heap.size ≤ s.2.2.2.2) ?_ ?_
      rotate_left
      · intro hJ8_9_10_12
        refine join_ (σ := S55 × Option Addr × Nat × Nat × Nat) 2 #[true, true, true, true, true, true, true, true, true, true, true, true, false, false] (fun s => [(51, .agg #[.string s.1.f0, .int .i64 s.1.f1, .int .i64 s.1.f2.f0, .int .i64 s.1.f2.f1, .int .i64 s.1.f2.f2, .int .i64 s.1.f3.f0, .int .i64 s.1.f3.f1, .int .i64 s.1.f3.f2, .string s.1.f4, .int .i64 s.1.f5, .slice s.2.1 s.1.f6.length s.2.2.1]), (52, .slice (some ⟨s.2.2.2.1, 0, none⟩) 2 2), (53, .string (ToldB [pp, s.1])), (54, .agg #[.int .i64 1, .int .i64 2, .string (ToldB [pp, s.1])])]) (fun s w' => Below wd.heap.size wd w' ∧ (MadeP s.1 ∧ s.1.f6.length ≤ s.2.2.1 ∧ Kd.F Kd.string w' (fun k => wd.heap.size ≤ k) s.2.1 s.1.f6.length s.1.f6)) ?_ ?_
        rotate_left
        · intro hJ8_9_10
          refine join_ (σ := S55 × Option Addr × Nat × Nat × Nat) 3 #[true, true, true, true, true, true, true, true, true, true, false, false, true, false] (fun s => [(51, .agg #[.string s.1.f0, .int .i64 s.1.f1, .int .i64 s.1.f2.f0, .int .i64 s.1.f2.f1, .int .i64 s.1.f2.f2, .int .i64 s.1.f3.f0, .int .i64 s.1.f3.f1, .int .i64 s.1.f3.f2, .string s.1.f4, .int .i64 s.1.f5, .slice s.2.1 s.1.f6.length s.2.2.1]), (52, .slice (some ⟨s.2.2.2.1, 0, none⟩) 2 2), (10, .pointer (some ⟨s.2.2.2.2, 0, none⟩))]) (fun s w' => Below wd.heap.size wd w' ∧ (MadeP s.1 ∧ s.1.f6.length ≤ s.2.2.1 ∧ Kd.F Kd.string w' (fun k => wd.heap.size ≤ k) s.2.1 s.1.f6.length s.1.f6) ∧ w'.heap[s.2.2.2.1]? = some (.cells #[.string pp.f0, .int .i64 pp.f1, .int .i64 pp.f2.f0, .int .i64 pp.f2.f1, .int .i64 pp.f2.f2, .int .i64 pp.f3.f0, .int .i64 pp.f3.f1, .int .i64 pp.f3.f2, .string pp.f4, .int .i64 pp.f5, .slice qA pp.f6.length pc, .string s.1.f0, .int .i64 s.1.f1, .int .i64 s.1.f2.f0, .int .i64 s.1.f2.f1, .int .i64 s.1.f2.f2, .int .i64 s.1.f3.f0, .int .i64 s.1.f3.f1, .int .i64 s.1.f3.f2, .string s.1.f4, .int .i64 s.1.f5, .slice s.2.1 s.1.f6.length s.2.2.1] 55 (0, 0)) ∧ w'.heap[s.2.2.2.2]? = some (.cells #[.int .i64 0, .int .i64 0, .string ⟨#[]⟩] 68 (0, 0)) ∧ wd.heap.size ≤ s.2.2.2.2) ?_ ?_
          rotate_left
          · intro hJ8_9_12
            refine join_ (σ := S55 × Option Addr × Nat × Nat × Nat) 4 #[true, true, true, true, true, true, true, true, true, true, false, false, false, false] (fun s => [(51, .agg #[.string s.1.f0, .int .i64 s.1.f1, .int .i64 s.1.f2.f0, .int .i64 s.1.f2.f1, .int .i64 s.1.f2.f2, .int .i64 s.1.f3.f0, .int .i64 s.1.f3.f1, .int .i64 s.1.f3.f2, .string s.1.f4, .int .i64 s.1.f5, .slice s.2.1 s.1.f6.length s.2.2.1]), (52, .slice (some ⟨s.2.2.2.1, 0, none⟩) 2 2)]) (fun s w' => Below wd.heap.size wd w' ∧ (MadeP s.1 ∧ s.1.f6.length ≤ s.2.2.1 ∧ Kd.F Kd.string w' (fun k => wd.heap.size ≤ k) s.2.1 s.1.f6.length s.1.f6) ∧ w'.heap[s.2.2.2.1]? = some (.cells #[.string pp.f0, .int .i64 pp.f1, .int .i64 pp.f2.f0, .int .i64 pp.f2.f1, .int .i64 pp.f2.f2, .int .i64 pp.f3.f0, .int .i64 pp.f3.f1, .int .i64 pp.f3.f2, .string pp.f4, .int .i64 pp.f5, .slice qA pp.f6.length pc, .string s.1.f0, .int .i64 s.1.f1, .int .i64 s.1.f2.f0, .int .i64 s.1.f2.f1, .int .i64 s.1.f2.f2, .int .i64 s.1.f3.f0, .int .i64 s.1.f3.f1, .int .i64 s.1.f3.f2, .string s.1.f4, .int .i64 s.1.f5, .slice s.2.1 s.1.f6.length s.2.2.1] 55 (0, 0))) ?_ ?_
            rotate_left
            · intro hJ8_9
              refine join_ (σ := S55 × Option Addr × Nat × Nat × Nat) 4 #[true, true, true, true, true, true, true, true, true, false, false, false, true, false] (fun s => [(51, .agg #[.string s.1.f0, .int .i64 s.1.f1, .int .i64 s.1.f2.f0, .int .i64 s.1.f2.f1, .int .i64 s.1.f2.f2, .int .i64 s.1.f3.f0, .int .i64 s.1.f3.f1, .int .i64 s.1.f3.f2, .string s.1.f4, .int .i64 s.1.f5, .slice s.2.1 s.1.f6.length s.2.2.1]), (10, .pointer (some ⟨s.2.2.2.2, 0, none⟩))]) (fun s w' => Below wd.heap.size wd w' ∧ (MadeP s.1 ∧ s.1.f6.length ≤ s.2.2.1 ∧ Kd.F Kd.string w' (fun k => wd.heap.size ≤ k) s.2.1 s.1.f6.length s.1.f6) ∧ w'.heap[s.2.2.2.2]? = some (.cells #[.int .i64 0, .int .i64 0, .string ⟨#[]⟩] 68 (0, 0)) ∧ wd.heap.size ≤ s.2.2.2.2) ?_ ?_
              rotate_left
              · intro hJ8_12
                refine join_ (σ := S55 × Option Addr × Nat × Nat × Nat) 5 #[true, true, true, true, true, true, true, true, true, false, false, false, false, false] (fun s => [(51, .agg #[.string s.1.f0, .int .i64 s.1.f1, .int .i64 s.1.f2.f0, .int .i64 s.1.f2.f1, .int .i64 s.1.f2.f2, .int .i64 s.1.f3.f0, .int .i64 s.1.f3.f1, .int .i64 s.1.f3.f2, .string s.1.f4, .int .i64 s.1.f5, .slice s.2.1 s.1.f6.length s.2.2.1])]) (fun s w' => Below wd.heap.size wd w' ∧ (MadeP s.1 ∧ s.1.f6.length ≤ s.2.2.1 ∧ Kd.F Kd.string w' (fun k => wd.heap.size ≤ k) s.2.1 s.1.f6.length s.1.f6)) ?_ ?_
                rotate_left
                · intro hJ8
                  refine join_ (σ := S55 × Option Addr × Nat × Nat × Nat) 5 #[true, true, true, true, true, true, true, true, false, false, false, false, true, false] (fun s => [(10, .pointer (some ⟨s.2.2.2.2, 0, none⟩))]) (fun s w' => Below wd.heap.size wd w' ∧ w'.heap[s.2.2.2.2]? = some (.cells #[.int .i64 0, .int .i64 0, .string ⟨#[]⟩] 68 (0, 0)) ∧ wd.heap.size ≤ s.2.2.2.2) ?_ ?_
                  rotate_left
                  · intro hJ12
                    refine two_ (i := 8) (j := 12) (Ni := some 51) (Nj := some 10) #[true, true, true, true, true, true, true, true, true, false, false, false, false, false] #[true, true, true, true, true, true, true, true, false, false, false, false, true, false] rfl rfl rfl rfl (by kernel_rfl) (by decide) (by decide) (fun K hK => ?_) (fun K hK => ?_)
                    · skip
                      refine goes_ Try.func29 (by kernel_rfl) rfl #[.agg #[.int .i64 q1, .int .i64 3, .int .i64 0]] (by rfl) rfl rfl zbd2 ?_
                      with_reducible refine (Made_c q1 3 0 _).mono ?_
                      rintro e wq ⟨p3, A3, c3, hp3, rfl, hr3, hb⟩
                      refine ⟨_, rfl, ?_⟩
                      have HBq := Lib.hid (HBv.out.trans (hb.mono HBv.out.size))
                      have H8q := Lib.hid (show MadeP p3 ∧ p3.f6.length ≤ c3 ∧ Kd.F Kd.string wq (fun k => wd.heap.size ≤ k) A3 p3.f6.length p3.f6 from ⟨hp3, (Kd.R_reads' hr3).2.1, R_F (Kd.R_mono (ok' := fun k => wd.heap.size ≤ k) (Kd.R_bound hr3) (fun k hk => Nat.le_trans HBv.out.size hk.2.1))⟩)
                      have hbq := Lib.hid hb
                      clear hp3 hr3 hb
                      refine hK.out _ _ ⟨zbdp HBq.out x0, zbdp HBq.out x1, zbdp HBq.out x2, zbdp HBq.out x3, zbdp HBq.out x4, zbdp HBq.out x5, zbdp HBq.out x6, zbdp HBq.out x7, zbdp HBq.out x8, zbdp HBq.out x9, zbdp HBq.out x10, zbdp HBq.out z3⟩ (fun hHeld => norm_ zbd1 ?_)
                      clear hK K
                      exact norm_ zbd0 (hJ8 (p3, A3, c3, 0, 0) _ ⟨HBq.out, H8q.out⟩)
                    · skip
                      refine value_ (w1 := ?_) (v := ?_) (by rfl) rfl ?_ ?_
                      rotate_left 2
                      · go_simp
                        constructor
                        · rfl
                        · rfl
                      refine hK.out _ _ ⟨plA HBv.out x0, plA HBv.out x1, plA HBv.out x2, plA HBv.out x3, plA HBv.out x4, plA HBv.out x5, plA HBv.out x6, plA HBv.out x7, plA HBv.out x8, plA HBv.out x9, plA HBv.out x10, plA HBv.out z3⟩ (fun hHeld => norm_ zbd1 ?_)
                      clear hK K
                      exact norm_ zbd0 (hJ12 (⟨⟨#[]⟩, 0, ⟨0, 0, 0⟩, ⟨0, 0, 0⟩, ⟨#[]⟩, 0, []⟩, none, 0, 0, wd.heap.size) _ ⟨(below_alloc HBv.out _), blk_new _ _, HBv.out.size⟩)
                  · skip
                    rintro ⟨p2, A2, c2, gs, gm⟩ v ⟨hF, h12, hGM⟩
                    dsimp only at hF h12 hGM ⊢
                    have HBv := Lib.hid hF
                    have H12 := Lib.hid h12
                    have HGM := Lib.hid hGM
                    clear hF h12 hGM
                    refine norm_ (a' := ?_) ?_ ?_
                    rotate_left
                    · simp only [putAll, Act.put, nS]
                      rfl
                    refine one_ (i := 8) (N := some 51) #[true, true, true, true, true, true, true, true, true, false, false, false, true, false] rfl rfl (by kernel_rfl) (by decide) (fun K hK => ?_)
                    refine goes_ Try.func29 (by kernel_rfl) rfl #[.agg #[.int .i64 q1, .int .i64 3, .int .i64 0]] (by rfl) rfl rfl zbd2 ?_
                    with_reducible refine (Made_c q1 3 0 _).mono ?_
                    rintro e wq ⟨p3, A3, c3, hp3, rfl, hr3, hb⟩
                    refine ⟨_, rfl, ?_⟩
                    have HBq := Lib.hid (HBv.out.trans (hb.mono HBv.out.size))
                    have H8q := Lib.hid (show MadeP p3 ∧ p3.f6.length ≤ c3 ∧ Kd.F Kd.string wq (fun k => wd.heap.size ≤ k) A3 p3.f6.length p3.f6 from ⟨hp3, (Kd.R_reads' hr3).2.1, R_F (Kd.R_mono (ok' := fun k => wd.heap.size ≤ k) (Kd.R_bound hr3) (fun k hk => Nat.le_trans HBv.out.size hk.2.1))⟩)
                    have hbq := Lib.hid hb
                    clear hp3 hr3 hb
                    refine hK.out _ _ ⟨zbdp HBq.out x0, zbdp HBq.out x1, zbdp HBq.out x2, zbdp HBq.out x3, zbdp HBq.out x4, zbdp HBq.out x5, zbdp HBq.out x6, zbdp HBq.out x7, zbdp HBq.out x8, zbdp HBq.out x9, zbdp HBq.out x10, zbdp HBq.out z3⟩ (fun hHeld => norm_ zbd1 ?_)
                    clear hK K
                    exact norm_ zbd0 (hJ8_12 (p3, A3, c3, gs, gm) _ ⟨HBq.out, H8q.out, blk_below H12.out hbq.out, HGM.out⟩)
                · skip
                  rintro ⟨p2, A2, c2, gs, gm⟩ v ⟨hF, h8⟩
                  dsimp only at hF h8 ⊢
                  have HBv := Lib.hid hF
                  have H8 := Lib.hid h8
                  clear hF h8
                  refine norm_ (a' := ?_) ?_ ?_
                  rotate_left
                  · simp only [putAll, Act.put, nS]
                    rfl
                  refine two_ (i := 9) (j := 12) (Ni := some 52) (Nj := some 10) #[true, true, true, true, true, true, true, true, true, true, false, false, false, false] #[true, true, true, true, true, true, true, true, true, false, false, false, true, false] rfl rfl rfl rfl (by kernel_rfl) (by decide) (by decide) (fun K hK => ?_) (fun K hK => ?_)
                  · skip
                    refine value_ (w1 := ?_) (v := ?_) (by rfl) rfl ?_ ?_
                    rotate_left 2
                    · go_simp
                      constructor
                      · rfl
                      · rfl
                    refine hK.out _ _ ⟨plA HBv.out x0, plA HBv.out x1, plA HBv.out x2, plA HBv.out x3, plA HBv.out x4, plA HBv.out x5, plA HBv.out x6, plA HBv.out x7, plA HBv.out x8, plA HBv.out x9, plA HBv.out x10, plA HBv.out z3⟩ (fun hHeld => norm_ zbd1 ?_)
                    clear hK K
                    exact norm_ zbd0 (hJ8_9 (p2, A2, c2, v.heap.size, gm) _ ⟨(below_alloc HBv.out _), ⟨H8.out.1, H8.out.2.1, Kd.F_alloc H8.out.2.2 _⟩, blk_new _ _⟩)
                  · skip
                    refine value_ (w1 := ?_) (v := ?_) (by rfl) rfl ?_ ?_
                    rotate_left 2
                    · go_simp
                      constructor
                      · rfl
                      · rfl
                    refine hK.out _ _ ⟨plA HBv.out x0, plA HBv.out x1, plA HBv.out x2, plA HBv.out x3, plA HBv.out x4, plA HBv.out x5, plA HBv.out x6, plA HBv.out x7, plA HBv.out x8, plA HBv.out x9, plA HBv.out x10, plA HBv.out z3⟩ (fun hHeld => norm_ zbd1 ?_)
                    clear hK K
                    exact norm_ zbd0 (hJ8_12 (p2, A2, c2, gs, v.heap.size) _ ⟨(below_alloc HBv.out _), ⟨H8.out.1, H8.out.2.1, Kd.F_alloc H8.out.2.2 _⟩, blk_new _ _, HBv.out.size⟩)
              · skip
                rintro ⟨p2, A2, c2, gs, gm⟩ v ⟨hF, h8, h12, hGM⟩
                dsimp only at hF h8 h12 hGM ⊢
                have HBv := Lib.hid hF
                have H8 := Lib.hid h8
                have H12 := Lib.hid h12
                have HGM := Lib.hid hGM
                clear hF h8 h12 hGM
                refine norm_ (a' := ?_) ?_ ?_
                rotate_left
                · simp only [putAll, Act.put, nS]
                  rfl
                refine one_ (i := 9) (N := some 52) #[true, true, true, true, true, true, true, true, true, true, false, false, true, false] rfl rfl (by kernel_rfl) (by decide) (fun K hK => ?_)
                refine value_ (w1 := ?_) (v := ?_) (by rfl) rfl ?_ ?_
                rotate_left 2
                · go_simp
                  constructor
                  · rfl
                  · rfl
                refine hK.out _ _ ⟨plA HBv.out x0, plA HBv.out x1, plA HBv.out x2, plA HBv.out x3, plA HBv.out x4, plA HBv.out x5, plA HBv.out x6, plA HBv.out x7, plA HBv.out x8, plA HBv.out x9, plA HBv.out x10, plA HBv.out z3⟩ (fun hHeld => norm_ zbd1 ?_)
                clear hK K
                exact norm_ zbd0 (hJ8_9_12 (p2, A2, c2, v.heap.size, gm) _ ⟨(below_alloc HBv.out _), ⟨H8.out.1, H8.out.2.1, Kd.F_alloc H8.out.2.2 _⟩, blk_new _ _, blk_alloc H12.out _, HGM.out⟩)
            · skip
              rintro ⟨p2, A2, c2, gs, gm⟩ v ⟨hF, h8, h9⟩
              dsimp only at hF h8 h9 ⊢
              have HBv := Lib.hid hF
              have H8 := Lib.hid h8
              have H9 := Lib.hid h9
              clear hF h8 h9
              refine norm_ (a' := ?_) ?_ ?_
              rotate_left
              · simp only [putAll, Act.put, nS]
                rfl
              refine two_ (i := 10) (j := 12) (Ni := some 53) (Nj := some 10) #[true, true, true, true, true, true, true, true, true, true, true, false, false, false] #[true, true, true, true, true, true, true, true, true, true, false, false, true, false] rfl rfl rfl rfl (by kernel_rfl) (by decide) (by decide) (fun K hK => ?_) (fun K hK => ?_)
              · skip
                refine goes_ Try.func23 (by kernel_rfl) rfl #[.slice (some ⟨gs, 0, none⟩) 2 2] (by rfl) rfl rfl zbd2 ?_
                with_reducible refine (told2 pp p2 qA A2 pc c2 HMP.out H8.out.1 gs _ H9.out HPCAP.out (Kd.F_now (Kd.F_below HFd.out HBv.out)) H8.out.2.1 (Kd.F_now H8.out.2.2)).mono ?_
                rintro e wq ⟨rfl, hb⟩
                refine ⟨_, rfl, ?_⟩
                have HBq := Lib.hid (HBv.out.trans (hb.mono HBv.out.size))
                have hbq := Lib.hid hb
                clear hb
                refine hK.out _ _ ⟨zbdp HBq.out x0, zbdp HBq.out x1, zbdp HBq.out x2, zbdp HBq.out x3, zbdp HBq.out x4, zbdp HBq.out x5, zbdp HBq.out x6, zbdp HBq.out x7, zbdp HBq.out x8, zbdp HBq.out x9, zbdp HBq.out x10, zbdp HBq.out z3⟩ (fun hHeld => norm_ zbd1 ?_)
                clear hK K
                refine pure_ (i := 11) (N := some 54) (v := ?_) (a' := ?_) #[true, true, true, true, true, true, true, true, true, true, true, true, false, false] rfl rfl (by kernel_rfl) (fun _ _ _ h => h) (Or.inl ⟨by rfl, ?_⟩) ?_ ?_
                rotate_left
                · intro w'
                  go_simp
                  with_reducible rfl
                rotate_left
                · simp only [Act.put, nS]
                  rfl
                exact norm_ zbd0 (hJ8_9_10 (p2, A2, c2, gs, gm) _ ⟨HBq.out, ⟨H8.out.1, H8.out.2.1, Kd.F_below H8.out.2.2 hbq.out⟩⟩)
              · skip
                refine value_ (w1 := ?_) (v := ?_) (by rfl) rfl ?_ ?_
                rotate_left 2
                · go_simp
                  constructor
                  · rfl
                  · rfl
                refine hK.out _ _ ⟨plA HBv.out x0, plA HBv.out x1, plA HBv.out x2, plA HBv.out x3, plA HBv.out x4, plA HBv.out x5, plA HBv.out x6, plA HBv.out x7, plA HBv.out x8, plA HBv.out x9, plA HBv.out x10, plA HBv.out z3⟩ (fun hHeld => norm_ zbd1 ?_)
                clear hK K
                exact norm_ zbd0 (hJ8_9_12 (p2, A2, c2, gs, v.heap.size) _ ⟨(below_alloc HBv.out _), ⟨H8.out.1, H8.out.2.1, Kd.F_alloc H8.out.2.2 _⟩, blk_alloc H9.out _, blk_new _ _, HBv.out.size⟩)
          · skip
            rintro ⟨p2, A2, c2, gs, gm⟩ v ⟨hF, h8, h9, h12, hGM⟩
            dsimp only at hF h8 h9 h12 hGM ⊢
            have HBv := Lib.hid hF
            have H8 := Lib.hid h8
            have H9 := Lib.hid h9
            have H12 := Lib.hid h12
            have HGM := Lib.hid hGM
            clear hF h8 h9 h12 hGM
            refine norm_ (a' := ?_) ?_ ?_
            rotate_left
            · simp only [putAll, Act.put, nS]
              rfl
            refine one_ (i := 10) (N := some 53) #[true, true, true, true, true, true, true, true, true, true, true, false, true, false] rfl rfl (by kernel_rfl) (by decide) (fun K hK => ?_)
            refine goes_ Try.func23 (by kernel_rfl) rfl #[.slice (some ⟨gs, 0, none⟩) 2 2] (by rfl) rfl rfl zbd2 ?_
            with_reducible refine (told2 pp p2 qA A2 pc c2 HMP.out H8.out.1 gs _ H9.out HPCAP.out (Kd.F_now (Kd.F_below HFd.out HBv.out)) H8.out.2.1 (Kd.F_now H8.out.2.2)).mono ?_
            rintro e wq ⟨rfl, hb⟩
            refine ⟨_, rfl, ?_⟩
            have HBq := Lib.hid (HBv.out.trans (hb.mono HBv.out.size))
            have hbq := Lib.hid hb
            clear hb
            refine hK.out _ _ ⟨zbdp HBq.out x0, zbdp HBq.out x1, zbdp HBq.out x2, zbdp HBq.out x3, zbdp HBq.out x4, zbdp HBq.out x5, zbdp HBq.out x6, zbdp HBq.out x7, zbdp HBq.out x8, zbdp HBq.out x9, zbdp HBq.out x10, zbdp HBq.out z3⟩ (fun hHeld => norm_ zbd1 ?_)
            clear hK K
            refine pure_ (i := 11) (N := some 54) (v := ?_) (a' := ?_) #[true, true, true, true, true, true, true, true, true, true, true, true, true, false] rfl rfl (by kernel_rfl) (fun _ _ _ h => h) (Or.inl ⟨by rfl, ?_⟩) ?_ ?_
            rotate_left
            · intro w'
              go_simp
              with_reducible rfl
            rotate_left
            · simp only [Act.put, nS]
              rfl
            exact norm_ zbd0 (hJ8_9_10_12 (p2, A2, c2, gs, gm) _ ⟨HBq.out, ⟨H8.out.1, H8.out.2.1, Kd.F_below H8.out.2.2 hbq.out⟩, blk_below H12.out hbq.out, HGM.out⟩)
        · skip
          rintro ⟨p2, A2, c2, gs, gm⟩ v ⟨hF, h8⟩
          dsimp only at hF h8 ⊢
          have HBv := Lib.hid hF
          have H8 := Lib.hid h8
          clear hF h8
          refine norm_ (a' := ?_) ?_ ?_
          rotate_left
          · simp only [putAll, Act.put, nS]
            rfl
          refine one_ (i := 12) (N := some 10) #[true, true, true, true, true, true, true, true, true, true, true, true, true, false] rfl rfl (by kernel_rfl) (by decide) (fun K hK => ?_)
          refine value_ (w1 := ?_) (v := ?_) (by rfl) rfl ?_ ?_
          rotate_left 2
          · go_simp
            constructor
            · rfl
            · rfl
          refine hK.out _ _ ⟨plA HBv.out x0, plA HBv.out x1, plA HBv.out x2, plA HBv.out x3, plA HBv.out x4, plA HBv.out x5, plA HBv.out x6, plA HBv.out x7, plA HBv.out x8, plA HBv.out x9, plA HBv.out x10, plA HBv.out z3⟩ (fun hHeld => norm_ zbd1 ?_)
          clear hK K
          exact norm_ zbd0 (hJ8_9_10_12 (p2, A2, c2, gs, v.heap.size) _ ⟨(below_alloc HBv.out _), ⟨H8.out.1, H8.out.2.1, Kd.F_alloc H8.out.2.2 _⟩, blk_new _ _, HBv.out.size⟩)
      rintro ⟨p2, A2, c2, gs, gm⟩ v ⟨hF, h8, h12, hGM⟩
      dsimp only at hF h8 h12 hGM ⊢
      have HBv := Lib.hid hF
      have H8 := Lib.hid h8
      have H12 := Lib.hid h12
      have HGM := Lib.hid hGM
      clear hF h8 h12 hGM
      refine norm_ (a' := ?_) ?_ ?_
      rotate_left
      · simp only [putAll, Act.put, nS]
        rfl
      refine last_ (i := 13) (N := none) #[true, true, true, true, true, true, true, true, true, true, true, true, true, true] rfl rfl (by kernel_rfl) (by decide) (fun K hK => ?_)
      refine store_ (by rfl) rfl 68 (.tmp 10) (.tmp 54) rfl gm 0 #[.int .i64 1, .int .i64 2, .string (ToldB [pp, p2])] rfl rfl (there_blk H12.out rfl) (inf68 rfl) one68 ?_
      refine hK.out _ _ ?_
      clear hK K
      refine done_ (by kernel_rfl) ?_
      clear hHeld x0 x1 x2 x3 x4 x5 x6 x7 x8 x9 x10 z3
      obtain ⟨tx, htx⟩ : ∃ x, x = ToldB [pp, p2] := ⟨_, rfl⟩
      have HTX := Lib.hid htx
      rw [← htx]
      have HMB := Lib.hid (setCells_full #[.int .i64 1, .int .i64 2, .string tx] H12.out rfl)
      have HBM := Lib.hid (below_cells HGM.out (#[.int .i64 1, .int .i64 2, .string tx] : Array Value).toList 0 _ HBv.out)
      generalize v.setCells gm 0 (#[.int .i64 1, .int .i64 2, .string tx] : Array Value).toList = wm at HMB HBM ⊢
      clear htx H12 HBv
      obtain ⟨t7, ht7⟩ : ∃ x, x = tow.tmod 7 := ⟨_, rfl⟩
      have hm7 := ht7.symm
      clear ht7
      have HRGm := Lib.hid (rangeAt_below HRGd.out HBM.out)
      have z1 := HRGm.out 1 _ rfl
      have y1 := ck HMB.out 1 _ rfl
      have hfz := fz HMB.out 1
      go_upto_if 61 with fail
      go_cut [] (fun wx => ∃ tw : Int, wx.heap[gm]? = some (.cells #[.int .i64 1, .int .i64 tw, .string tx] 68 (0, 0)) ∧ Below wd.heap.size wd wx)
      case first =>
       by_cases c7 : t7 = 6
       · have e7 : (t7 == 6) = true := beq_iff_eq.2 c7
         go_wp2
         go_meet
         exact ⟨tow, cell_set HMB.out 1 (by simp) _ rfl, HBM.out.setCell (p := ⟨gm, 1, none⟩) HGM.out _⟩
       · have e7 : (t7 == 6) = false := beq_eq_false_iff_ne.2 c7
         go_wp2
         go_meet
         exact ⟨2, HMB.out, HBM.out⟩
      case rest =>
       obtain ⟨tw, hmb, hbm⟩ := hcut
       have HMB2 := Lib.hid hmb
       have HBM2 := Lib.hid hbm
       have HRG2 := Lib.hid (rangeAt_below HRGd.out hbm)
       have z0 := HRG2.out 0 _ rfl
       rw [Nat.add_zero] at z0
       clear hmb hbm HMB HBM HRGm z1 y1 hfz hm7
       obtain ⟨md, hmd⟩ : ∃ r, abugidaref01_Mod.f what 6 = some r := ⟨_, by unfold abugidaref01_Mod.f; rw [if_neg (by omega)]⟩
       have HMD := Lib.hid hmd
       clear hmd
       go_upto_block 2 with (go_at_call 30; refine (mod_c what 6 md _ HMD.out).mono ?_; rintro e W5 ⟨rfl, hb⟩; have HMB5 := Lib.hid (blk_below HMB2.out hb); have HB5 := Lib.hid (HBM2.out.trans (hb.mono HBM2.out.size)); clear hb)
       clear z0 HMB2 HBM2 HRG2 HRGd
       go_cut [] (fun wx => ∃ q : QT, QOk q ∧ wx.heap[gm]? = some (.cells #[.int .i64 1, .int .i64 tw, .string (txB q)] 68 (0, 0)) ∧ Below wd.heap.size wd wx)
       case first =>
        go_upto_if 74 with fail
        obtain ⟨k01, hk01⟩ : ∃ b, b = (md == 0 || md == 1) := ⟨_, rfl⟩
        go_cut [74] (fun v74 wx => v74 = .bool k01 ∧ wx = W5)
        case first =>
         cases e0 : (md == 0) with
         | true =>
           go_wp2
           go_meet
           exact ⟨by rw [hk01, e0]; rfl, rfl⟩
         | false =>
           cases e1 : (md == 1) with
           | true =>
             go_wp2
             go_meet
             exact ⟨by rw [hk01, e0, e1]; rfl, rfl⟩
           | false =>
             go_wp2
             go_meet
             exact ⟨by rw [hk01, e0, e1]; rfl, rfl⟩
        case rest =>
         obtain ⟨rfl, rfl⟩ := hcut
         obtain ⟨W6, hW6⟩ : ∃ W, W = wc := ⟨_, rfl⟩
         subst hW6
         clear hk01
         cases k01 with
         | true =>
           go_upto_region 16 with fail
           have HBk := Lib.hid HB5.out.drew
           have HSk := Lib.hid (HSd.out.below HBk.out)
           have HFk := Lib.hid (Kd.F_below HFd.out HBk.out)
           have HXk := Lib.hid (blk_below HXd.out HBk.out)
           obtain ⟨ec, hec⟩ : ∃ x, x = (keepP most (X.map Kp.p) pp).1 := ⟨_, rfl⟩
           have HEC := Lib.hid hec
           clear hec
           have x0 := ck HXk.out 0 _ rfl
           have x1 := ck HXk.out 1 _ rfl
           have x2 := ck HXk.out 2 _ rfl
           have x3 := ck HXk.out 3 _ rfl
           have x4 := ck HXk.out 4 _ rfl
           have x5 := ck HXk.out 5 _ rfl
           have x6 := ck HXk.out 6 _ rfl
           have x7 := ck HXk.out 7 _ rfl
           have x8 := ck HXk.out 8 _ rfl
           have x9 := ck HXk.out 9 _ rfl
           have x10 := ck HXk.out 10 _ rfl
           refine start_ (n := 7) (S := fun w' => w'.cell? ⟨PB, 0, none⟩ = some (.string pp.f0) ∧ w'.cell? ⟨PB, 1, none⟩ = some (.int .i64 pp.f1) ∧ w'.cell? ⟨PB, 2, none⟩ = some (.int .i64 pp.f2.f0) ∧ w'.cell? ⟨PB, 3, none⟩ = some (.int .i64 pp.f2.f1) ∧ w'.cell? ⟨PB, 4, none⟩ = some (.int .i64 pp.f2.f2) ∧ w'.cell? ⟨PB, 5, none⟩ = some (.int .i64 pp.f3.f0) ∧ w'.cell? ⟨PB, 6, none⟩ = some (.int .i64 pp.f3.f1) ∧ w'.cell? ⟨PB, 7, none⟩ = some (.int .i64 pp.f3.f2) ∧ w'.cell? ⟨PB, 8, none⟩ = some (.string pp.f4) ∧ w'.cell? ⟨PB, 9, none⟩ = some (.int .i64 pp.f5) ∧ w'.cell? ⟨PB, 10, none⟩ = some (.slice qA pp.f6.length pc)) (ds := []) #[false, false, false, false, false, false, false] (by kernel_rfl) rfl rfl ⟨x0, x1, x2, x3, x4, x5, x6, x7, x8, x9, x10⟩ (fun hHeld => ?_)
           generalize W6.drew = wd5 at HBk HSk HFk HXk x0 x1 x2 x3 x4 x5 x6 x7 x8 x9 x10 hHeld ⊢
           refine pure_ (i := 0) (N := some 77) (v := ?_) (a' := ?_) #[true, false, false, false, false, false, false] rfl rfl (by kernel_rfl) (fun _ _ _ h => h) (Or.inl ⟨by rfl, ?_⟩) ?_ ?_
           rotate_left
           · intro w'
             go_simp
             with_reducible rfl
           rotate_left
           · simp only [Act.put, nS]
             rfl
           refine pure_ (i := 3) (N := some 80) (v := ?_) (a' := ?_) #[true, false, false, true, false, false, false] rfl rfl (by kernel_rfl) (fun _ _ _ h => h) (Or.inl ⟨by rfl, ?_⟩) ?_ ?_
           rotate_left
           · intro w'
             go_simp
             with_reducible rfl
           rotate_left
           · simp only [Act.put, nS]
             rfl
           refine take_ (i := 1) (N := some 78) (v := ?_) (a' := ?_) #[true, true, false, true, false, false, false] rfl rfl (by kernel_rfl) (fun _ _ _ h => h) (Or.inl ⟨by rfl, ?_⟩) hHeld ?_ ?_
           rotate_left
           · rintro w' ⟨s0, s1, s2, s3, s4, s5, s6, s7, s8, s9, s10⟩
             go_simp
             with_reducible rfl
           rotate_left
           · simp only [Act.put, nS]
             rfl
           refine take_ (i := 4) (N := some 81) (v := ?_) (a' := ?_) #[true, true, false, true, true, false, false] rfl rfl (by kernel_rfl) (fun _ _ _ h => h) (Or.inl ⟨by rfl, ?_⟩) hHeld ?_ ?_
           rotate_left
           · rintro w' ⟨s0, s1, s2, s3, s4, s5, s6, s7, s8, s9, s10⟩
             go_simp
             with_reducible rfl
           rotate_left
           · simp only [Act.put, nS]
             rfl
           refine one_ (i := 2) (N := some 79) #[true, true, true, true, true, false, false] rfl rfl (by kernel_rfl) (by decide) (fun K hK => ?_)
           refine goes_ Try.func31 (by kernel_rfl) rfl #[.pointer (some ⟨gr, 0, none⟩), .agg #[.string pp.f0, .int .i64 pp.f1, .int .i64 pp.f2.f0, .int .i64 pp.f2.f1, .int .i64 pp.f2.f2, .int .i64 pp.f3.f0, .int .i64 pp.f3.f1, .int .i64 pp.f3.f2, .string pp.f4, .int .i64 pp.f5, .slice qA pp.f6.length pc]] (by rfl) rfl rfl zbd2 ?_
           with_reducible refine (keepOwn HSk.out.own HPOS.out HBIG.out zbd5 pp HPK.out qA pc (Kd.F_now HFk.out) HPCAP.out ec HEC.out).mono ?_
           rintro e wk ⟨rfl, ho1, hr1⟩
           refine ⟨_, rfl, ?_⟩
           have HO1 := Lib.hid ho1; have HR1 := Lib.hid hr1; have HF1 := Lib.hid (Kd.F_kept HFk.out ho1.kept (fun k hk e => by have h1 := HFAR.out k hk; rcases e with e | e; exact h1.2.1 e; exact h1.2.2 e)); clear ho1 hr1
           refine hK.out _ _ ⟨(cell_same (HO1.out.block PB (blk_lt HXk.out) HNE.out.2.1 HNE.out.2.2)).trans x0, (cell_same (HO1.out.block PB (blk_lt HXk.out) HNE.out.2.1 HNE.out.2.2)).trans x1, (cell_same (HO1.out.block PB (blk_lt HXk.out) HNE.out.2.1 HNE.out.2.2)).trans x2, (cell_same (HO1.out.block PB (blk_lt HXk.out) HNE.out.2.1 HNE.out.2.2)).trans x3, (cell_same (HO1.out.block PB (blk_lt HXk.out) HNE.out.2.1 HNE.out.2.2)).trans x4, (cell_same (HO1.out.block PB (blk_lt HXk.out) HNE.out.2.1 HNE.out.2.2)).trans x5, (cell_same (HO1.out.block PB (blk_lt HXk.out) HNE.out.2.1 HNE.out.2.2)).trans x6, (cell_same (HO1.out.block PB (blk_lt HXk.out) HNE.out.2.1 HNE.out.2.2)).trans x7, (cell_same (HO1.out.block PB (blk_lt HXk.out) HNE.out.2.1 HNE.out.2.2)).trans x8, (cell_same (HO1.out.block PB (blk_lt HXk.out) HNE.out.2.1 HNE.out.2.2)).trans x9, (cell_same (HO1.out.block PB (blk_lt HXk.out) HNE.out.2.1 HNE.out.2.2)).trans x10⟩ (fun hHeld => norm_ zbd1 ?_)
           clear hK K
           refine one_ (i := 5) (N := some 82) #[true, true, true, true, true, true, false] rfl rfl (by kernel_rfl) (by decide) (fun K hK => ?_)
           refine goes_ Try.func32 (by kernel_rfl) rfl #[.pointer (some ⟨g2, 0, none⟩), .agg #[.string pp.f0, .int .i64 pp.f1, .int .i64 pp.f2.f0, .int .i64 pp.f2.f1, .int .i64 pp.f2.f2, .int .i64 pp.f3.f0, .int .i64 pp.f3.f1, .int .i64 pp.f3.f2, .string pp.f4, .int .i64 pp.f5, .slice qA pp.f6.length pc]] (by rfl) rfl rfl zbd2 ?_
           with_reducible refine (keepRef (HSk.out.mid HO1.out) HPOS.out HBIG.out zbd5 (fun k hk => HFAR.out k (Nat.le_trans (Nat.le_trans HWd.out HBk.out.size) (Nat.le_trans HO1.out.size hk))) (fun k hk => hk.1) pp HPK.out qA pc (Kd.F_now HF1.out) HPCAP.out ec HEC.out).mono ?_
           rintro e wl ⟨X2, rfl, hm2, hr2, ho2⟩
           refine ⟨_, rfl, ?_⟩
           have HM2 := Lib.hid hm2; have HR2 := Lib.hid hr2; have HO2 := Lib.hid ho2; clear hm2 hr2 ho2
           refine hK.out _ _ ⟨(cell_same (HO2.out.block PB (Nat.lt_of_lt_of_le (blk_lt HXk.out) HO1.out.size) HNE.out.1 HNE.out.1)).trans ((cell_same (HO1.out.block PB (blk_lt HXk.out) HNE.out.2.1 HNE.out.2.2)).trans x0), (cell_same (HO2.out.block PB (Nat.lt_of_lt_of_le (blk_lt HXk.out) HO1.out.size) HNE.out.1 HNE.out.1)).trans ((cell_same (HO1.out.block PB (blk_lt HXk.out) HNE.out.2.1 HNE.out.2.2)).trans x1), (cell_same (HO2.out.block PB (Nat.lt_of_lt_of_le (blk_lt HXk.out) HO1.out.size) HNE.out.1 HNE.out.1)).trans ((cell_same (HO1.out.block PB (blk_lt HXk.out) HNE.out.2.1 HNE.out.2.2)).trans x2), (cell_same (HO2.out.block PB (Nat.lt_of_lt_of_le (blk_lt HXk.out) HO1.out.size) HNE.out.1 HNE.out.1)).trans ((cell_same (HO1.out.block PB (blk_lt HXk.out) HNE.out.2.1 HNE.out.2.2)).trans x3), (cell_same (HO2.out.block PB (Nat.lt_of_lt_of_le (blk_lt HXk.out) HO1.out.size) HNE.out.1 HNE.out.1)).trans ((cell_same (HO1.out.block PB (blk_lt HXk.out) HNE.out.2.1 HNE.out.2.2)).trans x4), (cell_same (HO2.out.block PB (Nat.lt_of_lt_of_le (blk_lt HXk.out) HO1.out.size) HNE.out.1 HNE.out.1)).trans ((cell_same (HO1.out.block PB (blk_lt HXk.out) HNE.out.2.1 HNE.out.2.2)).trans x5), (cell_same (HO2.out.block PB (Nat.lt_of_lt_of_le (blk_lt HXk.out) HO1.out.size) HNE.out.1 HNE.out.1)).trans ((cell_same (HO1.out.block PB (blk_lt HXk.out) HNE.out.2.1 HNE.out.2.2)).trans x6), (cell_same (HO2.out.block PB (Nat.lt_of_lt_of_le (blk_lt HXk.out) HO1.out.size) HNE.out.1 HNE.out.1)).trans ((cell_same (HO1.out.block PB (blk_lt HXk.out) HNE.out.2.1 HNE.out.2.2)).trans x7), (cell_same (HO2.out.block PB (Nat.lt_of_lt_of_le (blk_lt HXk.out) HO1.out.size) HNE.out.1 HNE.out.1)).trans ((cell_same (HO1.out.block PB (blk_lt HXk.out) HNE.out.2.1 HNE.out.2.2)).trans x8), (cell_same (HO2.out.block PB (Nat.lt_of_lt_of_le (blk_lt HXk.out) HO1.out.size) HNE.out.1 HNE.out.1)).trans ((cell_same (HO1.out.block PB (blk_lt HXk.out) HNE.out.2.1 HNE.out.2.2)).trans x9), (cell_same (HO2.out.block PB (Nat.lt_of_lt_of_le (blk_lt HXk.out) HO1.out.size) HNE.out.1 HNE.out.1)).trans ((cell_same (HO1.out.block PB (blk_lt HXk.out) HNE.out.2.1 HNE.out.2.2)).trans x10)⟩ (fun hHeld => norm_ zbd1 ?_)
           clear hK K
           refine pure_ (i := 6) (N := some 83) (v := ?_) (a' := ?_) #[true, true, true, true, true, true, true] rfl rfl (by kernel_rfl) (fun _ _ _ h => h) (Or.inl ⟨by rfl, ?_⟩) ?_ ?_
           rotate_left
           · intro w'
             go_simp
             with_reducible rfl
           rotate_left
           · simp only [Act.put, nS]
             rfl
           refine done_ (by kernel_rfl) ?_
           clear hHeld x0 x1 x2 x3 x4 x5 x6 x7 x8 x9 x10
           go_wp2
           go_roundg kA
           case measure => omega
           case rel =>
            have h1 := congrArg List.length HM2.out
            rw [List.length_map] at h1
            have h2 := keepP_len most (X.map Kp.p) pp
            rw [List.length_map] at h2
            exact ⟨i + 1, X2, by first | rw [HE1.out] | rfl, zbd5, zbd6, zbd6, zbd5, (PSt.both HSk.out HO1.out (by rw [HM2.out]; exact HR1.out) HO2.out HR2.out).up (by omega)⟩
         | false =>
           go_upto_if 84 with fail
           obtain ⟨k345, hk345⟩ : ∃ b, b = (md == 3 || (md == 4 || md == 5)) := ⟨_, rfl⟩
           go_cut [84] (fun v84 wx => v84 = .bool k345 ∧ wx = W6)
           case first =>
            cases e3 : (md == 3) with
            | true =>
              go_wp2
              go_meet
              exact ⟨by rw [hk345, e3]; rfl, rfl⟩
            | false =>
              cases e4 : (md == 4) with
              | true =>
                go_wp2
                go_meet
                exact ⟨by rw [hk345, e3, e4]; rfl, rfl⟩
              | false =>
                cases e5 : (md == 5) with
                | true =>
                  go_wp2
                  go_meet
                  exact ⟨by rw [hk345, e3, e4, e5]; rfl, rfl⟩
                | false =>
                  go_wp2
                  go_meet
                  exact ⟨by rw [hk345, e3, e4, e5]; rfl, rfl⟩
           case rest =>
            obtain ⟨rfl, rfl⟩ := hcut
            obtain ⟨W7, hW7⟩ : ∃ W, W = wc := ⟨_, rfl⟩
            subst hW7
            clear hk345
            cases k345 with
            | true =>
              obtain ⟨kq, hkq⟩ := (refAsk_ev pp.f0 pp.f1 [pp.f2, ⟨2, 1, 0⟩, ⟨1, 0, 0⟩] (by have := HPK.out.ok.f0; omega) HPK.out.ok.f1 (by simp) (ask_keys HPK.out.ok)).rounds
              have HKQ := Lib.hid hkq
              have HX7 := Lib.hid (blk_below HXd.out HB5.out)
              clear hkq
              have x0 := ck HX7.out 0 _ rfl
              have x1 := ck HX7.out 1 _ rfl
              have x2 := ck HX7.out 2 _ rfl
              have x3 := ck HX7.out 3 _ rfl
              have x4 := ck HX7.out 4 _ rfl
              go_wp2_with (go_at_call 18; refine (refAsk_n kq pp.f0 pp.f1 (some ⟨W7.heap.size, 0, none⟩) 3 3 [pp.f2, ⟨2, 1, 0⟩, ⟨1, 0, 0⟩] _ _ rfl (C_keys W7 [pp.f2, ⟨2, 1, 0⟩, ⟨1, 0, 0⟩] _ 3 rfl rfl (by decide)) (Nat.le_refl _) HKQ.out).mono ?_; rintro e W8 ⟨rfl, hb⟩; have HB8 := Lib.hid ((below_alloc (Below.refl W7.heap.size W7) _).trans (hb.mono (below_alloc (Below.refl W7.heap.size W7) _).size)); have HM8 := Lib.hid (blk_below HMB5.out HB8.out); have y2 := ck HM8.out 2 _ rfl; have f2_ := fz HM8.out 2; clear hb)
              go_meet
              exact ⟨.inr (pp.f0, pp.f1, [pp.f2, ⟨2, 1, 0⟩, ⟨1, 0, 0⟩]), ⟨by rcases HMP.out.f0 with e | e <;> (rw [e]; decide), HPK.out.ok.f1, by simp, ask_keys HPK.out.ok⟩, cell_set HM8.out 2 (by simp) _ rfl, (HB5.out.trans (HB8.out.mono HB5.out.size)).setCell (p := ⟨gm, 2, none⟩) HGM.out _⟩
            | false =>
              go_wp2
              go_meet
              exact ⟨.inl [pp, p2], ⟨by simp, fun p hp => by
               rcases List.mem_cons.1 hp with rfl | hp
               · exact HMP.out
               · rw [List.mem_singleton.1 hp]; exact H8.out.1⟩, by rw [show txB (.inl [pp, p2]) = tx from HTX.out.symm]; exact HMB5.out, HB5.out⟩
       case rest =>
        obtain ⟨q, hq, hmb, hb8⟩ := hcut
        obtain ⟨W9, hW9⟩ : ∃ W, W = wc := ⟨_, rfl⟩
        subst hW9
        have HQ := Lib.hid hq
        have HM9 := Lib.hid hmb
        have HB9 := Lib.hid hb8
        have HS9 := Lib.hid (HSd.out.below hb8)
        have HGMF := Lib.hid (HFAR.out gm (Nat.le_trans HWd.out HGM.out))
        have HSZ9 := Lib.hid (show wr.heap.size ≤ W9.heap.size from Nat.le_trans HWd.out hb8.size)
        obtain ⟨y0, y1, y2⟩ := box68 hmb
        clear hq hmb hb8 HMB5 HB5
        go_upto_region 23 with (go_at_call 33; refine (takeOwn HS9.out.own HPOS.out HBIG.out zbd5 q HQ.out tw).mono ?_; rintro e Wa ⟨Aa, na, rfl, ha, ho, hs⟩; have HAa := Lib.hid ha; have HOa := Lib.hid ho; have HRa := Lib.hid hs; clear ha ho hs)
        have HMa := Lib.hid ((HOa.out.block gm (blk_lt HM9.out) HGMF.out.2.1 HGMF.out.2.2).trans HM9.out)
        clear y0 y1 y2
        obtain ⟨y0, y1, y2⟩ := box68 HMa.out
        go_upto_region 24 with (go_at_call 34; refine (takeRef (HS9.out.mid HOa.out) HPOS.out HBIG.out zbd5 (fun k hk => HFAR.out k (Nat.le_trans HSZ9.out (Nat.le_trans HOa.out.size hk))) (fun k hk => hk.1) q HQ.out tw).mono ?_; rintro e Wb ⟨Ab, nb_, X8, rfl, ha, hm, hr, ho⟩; have HAb := Lib.hid ha; have HOb := Lib.hid ho; have HRb := Lib.hid hr; have HMb := Lib.hid hm; clear ha hm hr ho)
        clear y0 y1 y2
        have HSb := Lib.hid (PSt.both HS9.out HOa.out (by rw [HMb.out]; exact HRa.out) HOb.out HRb.out)
        have HAa2 := Lib.hid (HAa.out.only HOb.out (fun k hk => (HFAR.out k (Nat.le_trans HSZ9.out hk)).1))
        have HLX := Lib.hid (show X8.length ≤ 2 * (i + 1) from by
         have h1 := HSb.out.own.oks.2.1
         rw [List.length_map] at h1
         omega)
        clear HAa HRa HRb HMb HOa HOb HMa HM9 HB9 HS9
        have d7 : ((X8.length : Int) != (X8.length : Int)) = false := bne_eq_false_iff_eq.2 rfl
        rcases HAa2.out with ⟨e1, hA1, hn1⟩ | ⟨ga, t, e1, hA1, hn1, hlo, hca⟩
        · rcases HAb.out with ⟨e2, hA2, hn2⟩ | ⟨gb, t2, e2, hA2, hn2, hlo2, hcb⟩
          · subst hA1 hn1 hA2 hn2
            clear e1 e2 HAa2 HAb
            go_upto_region 26 with (first
             | (go_at_call 35; refine (manyOwn HSb.out.own).mono ?_; rintro e Wc ⟨rfl, hb⟩; have HSc := Lib.hid (HSb.out.below hb); clear hb)
             | (go_at_call 36; refine (refMany_c HSc.out.ref).mono ?_; rintro e Wd ⟨rfl, hb⟩; have HSe := Lib.hid (HSc.out.below hb); clear hb))
            go_wp2
            go_loopg [13] 1 (fun kq v13 w' => v13 = .int .i64 0 ∧ PSt w w' gr br g2 most (2 * i + 2) X8)
            case atStart => exact ⟨rfl, HSe.out⟩
            case round =>
             obtain ⟨rfl, hs2⟩ := hrel
             have HSf := Lib.hid hs2
             clear hs2
             go_wp2
             go_roundg kA
             case measure => omega
             case rel => exact ⟨i + 1, X8, by first | rw [HE1.out] | rfl, zbd5, zbd6, zbd6, HLX.out, HSf.out.up (by omega)⟩
          · rw [e1] at e2
            cases e2
        · rcases HAb.out with ⟨e2, hA2, hn2⟩ | ⟨gb, t2, e2, hA2, hn2, hlo2, hcb⟩
          · rw [e1] at e2
            cases e2
          · rw [e1] at e2
            obtain rfl := Option.some.inj e2
            subst hA1 hn1 hA2 hn2
            have HCA := Lib.hid hca
            have HCB := Lib.hid hcb
            clear e1 e2 HAa2 HAb hca hcb hlo hlo2
            go_upto_region 26 with (first
             | (go_at_call 35; refine (manyOwn HSb.out.own).mono ?_; rintro e Wc ⟨rfl, hb⟩; have HSc := Lib.hid (HSb.out.below hb); have HCA1 := Lib.hid (blk_below HCA.out hb); have HCB1 := Lib.hid (blk_below HCB.out hb); clear hb)
             | (go_at_call 36; refine (refMany_c HSc.out.ref).mono ?_; rintro e Wd ⟨rfl, hb⟩; have HSe := Lib.hid (HSc.out.below hb); have HCA2 := Lib.hid (blk_below HCA1.out hb); have HCB2 := Lib.hid (blk_below HCB1.out hb); clear hb))
            go_wp2
            go_loopg [13] 2 (fun kq v13 w' => ((v13 = .int .i64 0 ∧ kq = 2) ∨ (v13 = .int .i64 1 ∧ kq = 1)) ∧ Below Wd.heap.size Wd w')
            case atStart => exact ⟨.inl ⟨rfl, rfl⟩, Below.refl _ _⟩
            case round =>
             obtain ⟨hv, hbf⟩ := hrel
             have HBf := Lib.hid hbf
             rcases hv with ⟨rfl, hk⟩ | ⟨rfl, hk⟩
             · go_upto_region 29 with fail
               have HBd := Lib.hid hbf.drew
               obtain ⟨p0, p1, p2_⟩ := box68 (blk_below HCA2.out HBd.out)
               obtain ⟨r0, r1, r2⟩ := box68 (blk_below HCB2.out HBd.out)
               have cf := ne68 t
               have HK := Lib.hid hk
               clear hbf hk
               refine start_ (n := 9) (S := fun w' => w'.cell? ⟨ga, 0, none⟩ = some (.int .i64 2) ∧ w'.cell? ⟨ga, 1, none⟩ = some (.int .i64 1) ∧ w'.cell? ⟨ga, 2, none⟩ = some (.string t) ∧ w'.cell? ⟨gb, 0, none⟩ = some (.int .i64 2) ∧ w'.cell? ⟨gb, 1, none⟩ = some (.int .i64 1) ∧ w'.cell? ⟨gb, 2, none⟩ = some (.string t)) (ds := []) #[false, false, false, false, false, false, false, false, false] (by kernel_rfl) rfl rfl ⟨p0, p1, p2_, r0, r1, r2⟩ (fun hHeld => ?_)
               generalize wr.drew = wd9 at HBd p0 p1 p2_ r0 r1 r2 hHeld ⊢
               refine pure_ (i := 0) (N := some 123) (v := ?_) (a' := ?_) #[true, false, false, false, false, false, false, false, false] rfl rfl (by kernel_rfl) (fun _ _ _ h => h) (Or.inl ⟨by rfl, ?_⟩) ?_ ?_
               rotate_left
               · intro w'
                 go_simp
                 with_reducible rfl
               rotate_left
               · simp only [Act.put, nS]
                 rfl
               refine pure_ (i := 1) (N := some 124) (v := ?_) (a' := ?_) #[true, true, false, false, false, false, false, false, false] rfl rfl (by kernel_rfl) (fun _ _ _ h => h) (Or.inl ⟨by rfl, ?_⟩) ?_ ?_
               rotate_left
               · intro w'
                 go_simp
                 with_reducible rfl
               rotate_left
               · simp only [Act.put, nS]
                 rfl
               refine pure_ (i := 2) (N := some 125) (v := ?_) (a' := ?_) #[true, true, true, false, false, false, false, false, false] rfl rfl (by kernel_rfl) (fun _ _ _ h => h) (Or.inl ⟨by rfl, ?_⟩) ?_ ?_
               rotate_left
               · intro w'
                 go_simp
                 with_reducible rfl
               rotate_left
               · simp only [Act.put, nS]
                 rfl
               refine pure_ (i := 4) (N := some 127) (v := ?_) (a' := ?_) #[true, true, true, false, true, false, false, false, false] rfl rfl (by kernel_rfl) (fun _ _ _ h => h) (Or.inl ⟨by rfl, ?_⟩) ?_ ?_
               rotate_left
               · intro w'
                 go_simp
                 with_reducible rfl
               rotate_left
               · simp only [Act.put, nS]
                 rfl
               refine pure_ (i := 5) (N := some 128) (v := ?_) (a' := ?_) #[true, true, true, false, true, true, false, false, false] rfl rfl (by kernel_rfl) (fun _ _ _ h => h) (Or.inl ⟨by rfl, ?_⟩) ?_ ?_
               rotate_left
               · intro w'
                 go_simp
                 with_reducible rfl
               rotate_left
               · simp only [Act.put, nS]
                 rfl
               refine pure_ (i := 6) (N := some 129) (v := ?_) (a' := ?_) #[true, true, true, false, true, true, true, false, false] rfl rfl (by kernel_rfl) (fun _ _ _ h => h) (Or.inl ⟨by rfl, ?_⟩) ?_ ?_
               rotate_left
               · intro w'
                 go_simp
                 with_reducible rfl
               rotate_left
               · simp only [Act.put, nS]
                 rfl
               refine take_ (i := 3) (N := some 126) (v := ?_) (a' := ?_) #[true, true, true, true, true, true, true, false, false] rfl rfl (by kernel_rfl) (fun _ _ _ h => h) (Or.inl ⟨by rfl, ?_⟩) hHeld ?_ ?_
               rotate_left
               · rintro w' ⟨s0, s1, s2, s3, s4, s5⟩
                 go_simp
                 with_reducible rfl
               rotate_left
               · simp only [Act.put, nS]
                 rfl
               refine take_ (i := 7) (N := some 130) (v := ?_) (a' := ?_) #[true, true, true, true, true, true, true, true, false] rfl rfl (by kernel_rfl) (fun _ _ _ h => h) (Or.inl ⟨by rfl, ?_⟩) hHeld ?_ ?_
               rotate_left
               · rintro w' ⟨s0, s1, s2, s3, s4, s5⟩
                 go_simp
                 with_reducible rfl
               rotate_left
               · simp only [Act.put, nS]
                 rfl
               refine pure_ (i := 8) (N := some 131) (v := ?_) (a' := ?_) #[true, true, true, true, true, true, true, true, true] rfl rfl (by kernel_rfl) (fun _ _ _ h => h) (Or.inl ⟨by rfl, ?_⟩) ?_ ?_
               rotate_left
               · intro w'
                 go_simp
                 with_reducible rfl
               rotate_left
               · simp only [Act.put, nS]
                 rfl
               refine done_ (by kernel_rfl) ?_
               go_wp2
               cases gk with
               | zero => exact absurd HK.out (by omega)
               | succ kB =>
                 go_roundg kB
                 case measure => omega
                 case rel => exact ⟨.inr ⟨rfl, by have := HK.out; omega⟩, HBd.out⟩
             · clear hbf hk
               go_wp2
               go_roundg kA
               case measure => omega
               case rel => exact ⟨i + 1, X8, by first | rw [HE1.out] | rfl, zbd5, zbd6, zbd6, HLX.out, (HSe.out.below HBf.out).up (by omega)⟩
    · by_cases c1 : i < l0.length
      · have d1 : decide ((i : Int) < (l0.length : Int)) = true := decide_eq_true (by omega)
        have d2 : decide ((i : Int) < 30) = false := decide_eq_false (by omega)
        have n1 : (i < l0.length) = True := eq_true c1
        have n2 : (i < 30) = False := eq_false (by omega)
        clear hi hil hi30 hXl hs c0 c1
        go_wp2
        go_ret
        exact ⟨rfl, HSR.out.b⟩
      · have d1 : decide ((i : Int) < (l0.length : Int)) = false := decide_eq_false (by omega)
        have n1 : (i < l0.length) = False := eq_false c1
        clear hi hil hi30 hXl hs c0
        go_wp2
        go_ret
        exact ⟨rfl, HSR.out.b⟩
end Go.Proofs.Ythokkeljfdfppaa.Rl
