/- Several texts of this claim, one behind the other: RlV, RlW, RlX, RlY, RlZ. -/
import Derived.Test.YthokkeljfdfppaaMgQ
import Derived.BigQuiet
import Derived.Deep.QuietTactic
import Derived.Deep.CutBlock
/- The relay's state by its patches alone; Keep whole. -/
set_option linter.unusedVariables false
set_option linter.unusedSimpArgs false
namespace Go.Proofs.Ythokkeljfdfppaa.Rl
open Go.RowKit Go.Proofs.YthokkeljfdfppaaW.PrintWords Go.Proofs.YthokkeljfdfppaaW.PrintLast Go.Proofs.YthokkeljfdfppaaW.PrintMore Go.Proofs.Ythokkeljfdfppaa.Pb Go.Proofs.Ythokkeljfdfppaa.Gw Go.Proofs.Ythokkeljfdfppaa.Pure Go.WideMaps Go.WideElems
open Go.ChangeShapes Go.WideShapes Go.MapKept
theorem zal2 {p : Prop} (h : p := by rintro w' ⟨s0, s1, s2, s3, s4, s5⟩; go_simp; with_reducible rfl) : p := h
theorem zal1 {p : Prop} (h : p := by intro w'; go_simp; with_reducible rfl) : p := h
theorem zal0 {p : Prop} (h : p := by simp only [Act.put, nS]; rfl) : p := h
structure PK (p : S55) : Prop where
 ok : POk p
 nm : (nmOf p).Ok
 few : p.f6.length ≤ 1000
def szP (p : S55) : Int := ((EncB p).size : Int)
def sumP (l : List S55) : Int := (l.map szP).sum
def fitP : List S55 → Int → List S55
 | [], _ => []
 | x :: l, room => if room < sumP (x :: l) then fitP l room else x :: l
def othersP (n : Nm) (l : List S55) : List S55 := l.filter (fun x => decide (nmOf x ≠ n))
def keepP (bytes : Int) (L : List S55) (p : S55) : Int × List S55 := if bytes < szP p then (50, L) else (0, fitP (othersP (nmOf p) L) (bytes - szP p) ++ [p])
theorem encIs {p : S55} (h : PK p) : EncIs p (EncB p) := (Encode_ev p h.ok).rounds
theorem sum_map : ∀ (l : List Kp), (∀ x ∈ l, x.sz = szP x.p) → sumSz l = sumP (l.map Kp.p)
 | [], _ => rfl
 | x :: l, h => by
   have := sum_map l (fun y hy => h y (List.mem_cons_of_mem _ hy))
   simp only [sumSz, sumP, List.map_cons, List.sum_cons] at this ⊢
   rw [h x List.mem_cons_self, this]
theorem fit_map : ∀ (l : List Kp) (room : Int), (∀ x ∈ l, x.sz = szP x.p) → (fit l room).map Kp.p = fitP (l.map Kp.p) room
 | [], _, _ => rfl
 | x :: l, room, h => by
   have h1 := sum_map (x :: l) h
   rw [List.map_cons] at h1
   rw [List.map_cons, fit, fitP, h1]
   by_cases c : room < sumP (x.p :: l.map Kp.p)
   · rw [if_pos c, if_pos c]
     exact fit_map l room (fun y hy => h y (List.mem_cons_of_mem _ hy))
   · rw [if_neg c, if_neg c]
     rfl
theorem others_map (n : Nm) (l : List Kp) : (others n l).map Kp.p = othersP n (l.map Kp.p) := by
 unfold others othersP
 rw [List.filter_map]
 rfl
theorem fit_le : ∀ (l : List Kp) (room : Int), 0 ≤ room → sumSz (fit l room) ≤ room
 | [], room, h => h
 | x :: l, room, h => by
   unfold fit
   split
   · exact fit_le l room h
   · omega
structure RSl (w : World) (g b : Nat) (no bytes clk : Int) (N : Nat) (L : List S55) (l : List Kp) : Prop where
 rel : RelIs w g b no bytes (sumSz l) clk l
 map : l.map Kp.p = L
 le : sumSz l ≤ bytes
 sz : ∀ x ∈ l, x.sz = szP x.p
 ok : ∀ x ∈ l, PK x.p
 c0 : 0 ≤ clk
 cN : clk ≤ N
 lN : l.length ≤ N
def RS (w : World) (g b : Nat) (no bytes : Int) (N : Nat) (L : List S55) : Prop := ∃ clk l, RSl w g b no bytes clk N L l
theorem RS.below {w w1 : World} {g b : Nat} {no bytes : Int} {N : Nat} {L : List S55} (h : RS w g b no bytes N L) (hb : Below w.heap.size w w1) : RS w1 g b no bytes N L := by
 obtain ⟨clk, l, h⟩ := h
 exact ⟨clk, l, h.rel.below hb, h.map, h.le, h.sz, h.ok, h.c0, h.cN, h.lN⟩
theorem RS.up {w : World} {g b : Nat} {no bytes : Int} {N M : Nat} {L : List S55} (h : RS w g b no bytes N L) (hM : N ≤ M) : RS w g b no bytes M L := by
 obtain ⟨clk, l, h⟩ := h
 have h1 := h.cN
 have h2 := h.lN
 exact ⟨clk, l, h.rel, h.map, h.le, h.sz, h.ok, h.c0, by omega, by omega⟩
theorem RS.oks {w : World} {g b : Nat} {no bytes : Int} {N : Nat} {L : List S55} (h : RS w g b no bytes N L) : (∀ p ∈ L, PK p) ∧ L.length ≤ N ∧ sumP L ≤ bytes := by
 obtain ⟨clk, l, h⟩ := h
 have h1 := h.lN
 have h2 := sum_map l h.sz
 have h3 := h.le
 rw [h.map] at h2
 refine ⟨fun p hp => ?_, by rw [← h.map, List.length_map]; exact h1, by omega⟩
 rw [← h.map] at hp
 obtain ⟨x, hx, rfl⟩ := List.mem_map.1 hp
 exact h.ok x hx
theorem RS.gb {w : World} {g b : Nat} {no bytes : Int} {N : Nat} {L : List S55} (h : RS w g b no bytes N L) : g < w.heap.size ∧ b < w.heap.size := by
 obtain ⟨clk, l, h⟩ := h
 obtain ⟨es, mc, hm, _⟩ := h.rel.map
 exact ⟨blk_lt h.rel.relay, blk_lt hm⟩
theorem Keep_c {w : World} {g b : Nat} {no bytes : Int} {N : Nat} {L : List S55} (h : RS w g b no bytes N L) (h0 : 0 < bytes) (hbig : bytes ≤ 1099511627776) (hN : N ≤ 100000) (p : S55) (hp : PK p) (A : Option Addr) (c : Nat) (hr : Kd.C Kd.string w A p.f6.length p.f6) (hc : p.f6.length ≤ c) :
 Calls Try.prog 31 #[.pointer (some ⟨g, 0, none⟩), .agg (pcells p A c).toArray] w fun e w' => e = .returned (.int .i64 (keepP bytes L p).1) ∧ Only g b w w' ∧ RS w' g b no bytes (N + 1) (keepP bytes L p).2 := by
 have hS := h
 obtain ⟨clk, l, h⟩ := h
 have c1 := h.cN
 have c2 := h.lN
 have c3 := h.c0
 have hfew := hp.few
 unfold keepP
 by_cases hb : bytes < szP p
 · rw [if_pos hb]
   refine (Keep_big h.rel (by omega) p A c _ hr hc (encIs hp) hb).mono ?_
   rintro e w' ⟨rfl, hb'⟩
   exact ⟨rfl, Only.of_below hb', (hS.below hb').up (by omega)⟩
 · rw [if_neg hb]
   have hnn : ∀ x ∈ l, 0 ≤ x.sz := fun x hx => by rw [h.sz x hx]; unfold szP; omega
   refine (Keep_ok h.rel h0 hbig rfl h.le hnn (by omega) c3 (by omega) p A c _ hr hc (by omega) hp.nm (encIs hp) hb).mono ?_
   rintro e w' ⟨rfl, ho, x, hx1, hx2, hx3, hrel⟩
   have hsub : ∀ y ∈ fit (others (nmOf p) l) (bytes - (EncB p).size), y ∈ l := fun y hy => (others_sub _ l).mem ((fit_sub _ _).mem hy)
   have hlen : (fit (others (nmOf p) l) (bytes - (EncB p).size)).length ≤ l.length := Nat.le_trans (fit_sub _ _).length_le (others_sub _ l).length_le
   refine ⟨rfl, ho, clk + 1, _, hrel, ?_, ?_, ?_, ?_, by omega, by omega, ?_⟩
   · rw [List.map_append, fit_map _ _ (fun y hy => h.sz y ((others_sub _ l).mem hy)), others_map, h.map]
     simp only [List.map_cons, List.map_nil, hx1]
     rfl
   · have h5 := fit_le (others (nmOf p) l) (bytes - (EncB p).size) (by unfold szP at hb; omega)
     have h6 : sumSz (fit (others (nmOf p) l) (bytes - (EncB p).size) ++ [x]) = sumSz (fit (others (nmOf p) l) (bytes - (EncB p).size)) + x.sz := by simp [sumSz]
     omega
   · intro y hy
     rcases List.mem_append.1 hy with hy | hy
     · exact h.sz y (hsub y hy)
     · rw [List.mem_singleton.1 hy, hx2, hx1]; rfl
   · intro y hy
     rcases List.mem_append.1 hy with hy | hy
     · exact h.ok y (hsub y hy)
     · rw [List.mem_singleton.1 hy, hx1]; exact hp
   · rw [List.length_append, List.length_singleton]; omega
theorem New_c (no bytes : Int) (h : 0 < bytes) (w : World) :
 Calls Try.prog 27 #[.int .i64 no, .int .i64 bytes] w fun e w' => ∃ g b, e = .returned (.pointer (some ⟨g, 0, none⟩)) ∧ Below w.heap.size w w' ∧ w.heap.size ≤ g ∧ w.heap.size ≤ b ∧ RS w' g b no bytes 0 [] := by
 refine (New_some no bytes (by omega) w).mono ?_
 rintro e w' ⟨g, b, h1, h2, h3, h4, h5⟩
 exact ⟨g, b, h1, h2, h3, h4, 0, [], h5, rfl, by simp [sumSz]; omega, by simp, by simp, Int.le_refl _, by omega, Nat.le_refl _⟩
theorem Many_s {w : World} {g b : Nat} {no bytes : Int} {N : Nat} {L : List S55} (h : RS w g b no bytes N L) :
 Calls Try.prog 35 #[.pointer (some ⟨g, 0, none⟩)] w fun e w' => e = .returned (.int .i64 L.length) ∧ Below w.heap.size w w' := by
 obtain ⟨clk, l, h⟩ := h
 have := Many_c h.rel
 rw [show (l.length : Int) = (L.length : Int) by rw [← h.map, List.length_map]] at this
 exact this
def keepAll (bytes : Int) (L l : List S55) : List S55 := l.foldl (fun L p => (keepP bytes L p).2) L
theorem elem55 {e base ga n c : Nat} {ok : Nat → Prop} {w : World} {l : List S55} {j : Nat} {x : S55} (h : Kd.R k55 e w base ok (.slice (some ⟨ga, 0, none⟩) n c) l) (hx : l[j]? = some x) :
 ∃ A10 c10, w.rangeAt ga (j * 11) [.string x.f0, .int .i64 x.f1, .int .i64 x.f2.f0, .int .i64 x.f2.f1, .int .i64 x.f2.f2, .int .i64 x.f3.f0, .int .i64 x.f3.f1, .int .i64 x.f3.f2, .string x.f4, .int .i64 x.f5, .slice A10 x.f6.length c10] ∧ x.f6.length ≤ c10 ∧ Kd.string.C w A10 x.f6.length x.f6 := by
 obtain ⟨hn, _, hC⟩ := Kd.R_reads' h
 obtain ⟨_, _, h3⟩ := hC
 have hj : j < l.length := (List.getElem?_eq_some_iff.1 hx).1
 obtain ⟨ad, e1, h4⟩ := h3 (by omega)
 cases e1
 obtain ⟨cs, h5, h6, h7⟩ := h4 j x hx
 obtain ⟨A10, c10, rfl, h8, h9⟩ := k55_open h6
 refine ⟨A10, c10, fun i u hu => ?_, h8, h9⟩
 have := h7 i u hu
 rw [Addr.add_mid, Nat.zero_add] at this
 exact this
set_option maxRecDepth 100000 in
theorem keep_x {w : World} {g b : Nat} {no bytes : Int} {N : Nat} {L : List S55} (h : RS w g b no bytes N L) (h0 : 0 < bytes) (hbig : bytes ≤ 1099511627776) (hN : N ≤ 100000) (f0 : ByteArray) (f1 k1 k2 k3 b1 b2 b3 : Int) (f4 : ByteArray) (f5 : Int) (f6 : List ByteArray) (hp : PK ⟨f0, f1, ⟨k1, k2, k3⟩, ⟨b1, b2, b3⟩, f4, f5, f6⟩) (A : Option Addr) (c : Nat) (hr : Kd.C Kd.string w A f6.length f6) (hc : f6.length ≤ c) :
 Calls Try.prog 31 #[.pointer (some ⟨g, 0, none⟩), .agg #[.string f0, .int .i64 f1, .int .i64 k1, .int .i64 k2, .int .i64 k3, .int .i64 b1, .int .i64 b2, .int .i64 b3, .string f4, .int .i64 f5, .slice A f6.length c]] w fun e w' => e = .returned (.int .i64 (keepP bytes L ⟨f0, f1, ⟨k1, k2, k3⟩, ⟨b1, b2, b3⟩, f4, f5, f6⟩).1) ∧ Only g b w w' ∧ RS w' g b no bytes (N + 1) (keepP bytes L ⟨f0, f1, ⟨k1, k2, k3⟩, ⟨b1, b2, b3⟩, f4, f5, f6⟩).2 := Keep_c h h0 hbig hN ⟨f0, f1, ⟨k1, k2, k3⟩, ⟨b1, b2, b3⟩, f4, f5, f6⟩ hp A c hr hc
theorem keepAll_snoc (bytes : Int) (L l : List S55) (j : Nat) (x : S55) (hx : l[j]? = some x) : keepAll bytes L (l.take (j + 1)) = (keepP bytes (keepAll bytes L (l.take j)) x).2 := by
 unfold keepAll
 rw [List.take_add_one, hx]
 simp
set_option maxHeartbeats 4000000 in
set_option maxRecDepth 100000 in
theorem told_c {w : World} {g b : Nat} {no bytes : Int} {N : Nat} {L : List S55} (h : RS w g b no bytes N L) (h0 : 0 < bytes) (hbig : bytes ≤ 1099511627776) (s : ByteArray) (l : List S55) (ok : Bool) (hT : Ev (fun k => relay_Tell.f k s) (l, ok)) (hN : N + l.length ≤ 99999) (hp : ∀ p ∈ l, PK p) (fr tw : Int) :
 Calls Try.prog 78 #[.pointer (some ⟨g, 0, none⟩), .agg #[.int .i64 fr, .int .i64 tw, .string s]] w fun e w' => e = .returned (.tuple #[.slice none 0 0, .bool ok]) ∧ Only g b w w' ∧ RS w' g b no bytes (N + l.length) (keepAll bytes L l) := by
 obtain ⟨k, hk⟩ := hT.rounds
 have HT := Lib.hid hk
 have HW := Lib.hid h
 have HB := Lib.hid (below_alloc (Below.refl w.heap.size w) (.cells #[.int .i64 fr, .int .i64 tw, .string s] 68 (0, 0)))
 have HN := Lib.hid (show 0 < bytes ∧ bytes ≤ 1099511627776 ∧ N + l.length ≤ 99999 from ⟨h0, hbig, hN⟩)
 have HP := Lib.hid hp
 clear hk hT h h0 hbig hN hp
 go_enter Try.func78, Try.ntmps78
 go_wp2_with (go_at_call 22; refine (relay_Tell.calls k s l ok _ HT.out).mono ?_; rintro e w1 ⟨v1, rfl, hr, hb⟩; have HL1 := Lib.hid hb.size; have HR := Lib.hid (Kd.R_lower (Kd.R_mono (ok' := fun k => w.heap.size ≤ k) (Kd.R_bound (Kd.S_R hr)) (fun k hk => Nat.le_trans HB.out.size hk.2.1)) HB.out.size); have HB1 := Lib.hid (HB.out.trans (hb.mono HB.out.size)); obtain ⟨A1, c1, rfl⟩ := Kd.R_slice HR.out; clear hr hb)
 go_loopg [18] (l.length + 1) (fun kq v18 w' => ∃ j : Nat, v18 = .int .i64 (j : Int) ∧ j + kq = l.length + 1 ∧ j ≤ l.length ∧ Only g b w w' ∧ RS w' g b no bytes (N + j) (keepAll bytes L (l.take j)) ∧ Kd.R k55 55 w' w.heap.size (fun k => w.heap.size ≤ k) (.slice A1 l.length c1) l)
 case atStart => exact ⟨0, rfl, by omega, by omega, Only.of_below HB1.out, (HW.out.below HB1.out), HR.out⟩
 case round =>
  obtain ⟨j, rfl, hj, hjl, ho, hs, hr⟩ := hrel
  by_cases c : j < l.length
  · have d1 : decide ((j : Int) < (l.length : Int)) = true := decide_eq_true (by omega)
    obtain ⟨ga, hga⟩ := R_some hr (by omega)
    subst hga
    obtain ⟨x, hx⟩ : ∃ x, l[j]? = some x := ⟨l[j], List.getElem?_eq_getElem c⟩
    have hpx := HP.out x (List.mem_of_getElem? hx)
    obtain ⟨A, c, hrg, hcap, hC⟩ := elem55 hr hx
    obtain ⟨f0, f1, ⟨k1, k2, k3⟩, ⟨b1, b2, b3⟩, f4, f5, f6⟩ := x
    simp only at hrg hcap hC
    have HX := Lib.hid hx
    have HPX := Lib.hid hpx
    have HRG := Lib.hid hrg
    have HCAP := Lib.hid hcap
    have HCC := Lib.hid hC
    have HO := Lib.hid ho
    have HS := Lib.hid hs
    have HRR := Lib.hid hr
    have HJ := Lib.hid (show j + gk = l.length + 1 ∧ j < l.length from ⟨hj, by assumption⟩)
    have e1 : wrap64 ((j : Int) + 1) = ((j + 1 : Nat) : Int) := by rw [rl64 (by have := HN.out; omega) (by have := HN.out; omega)]; omega
    have HF := Lib.hid (setCells_full #[.string f0, .int .i64 f1, .int .i64 k1, .int .i64 k2, .int .i64 k3, .int .i64 b1, .int .i64 b2, .int .i64 b3, .string f4, .int .i64 f5, .slice A f6.length c] (blk_new wr (.cells ZP 55 (0, 0))) rfl)
    have HBn := Lib.hid (below_cells (Nat.le_refl _) (#[.string f0, .int .i64 f1, .int .i64 k1, .int .i64 k2, .int .i64 k3, .int .i64 b1, .int .i64 b2, .int .i64 b3, .string f4, .int .i64 f5, .slice A f6.length c] : Array Value).toList 0 _ (below_alloc (Below.refl wr.heap.size wr) (.cells ZP 55 (0, 0))))
    clear hx hpx hrg hcap hC ho hs hr hj hjl
    go_upto_region 5 with (first
     | (refine wpList_load_mid rfl 55 (.tmp 20) rfl ga (j * 11) rfl (#[.string f0, .int .i64 f1, .int .i64 k1, .int .i64 k2, .int .i64 k3, .int .i64 b1, .int .i64 b2, .int .i64 b3, .string f4, .int .i64 f5, .slice A f6.length c] : Array Value).toList _ HRG.out Try.underlying55 rfl (inf11 rfl) ?_)
     | (refine wpList_store_mid rfl 55 (.tmp 9) (.tmp 21) rfl _ 0 #[.string f0, .int .i64 f1, .int .i64 k1, .int .i64 k2, .int .i64 k3, .int .i64 b1, .int .i64 b2, .int .i64 b3, .string f4, .int .i64 f5, .slice A f6.length c] rfl rfl (there_blk (blk_new _ _) rfl) (inf11 rfl) one11 ?_))
    generalize (wr.alloc (.cells ZP 55 (0, 0))).setCells wr.heap.size 0 (#[.string f0, .int .i64 f1, .int .i64 k1, .int .i64 k2, .int .i64 k3, .int .i64 b1, .int .i64 b2, .int .i64 b3, .string f4, .int .i64 f5, .slice A f6.length c] : Array Value).toList = wn at HF HBn ⊢
    go_wp2_with (first
     | (refine wpList_load_mid rfl 55 (.tmp 9) rfl wr.heap.size 0 rfl (#[.string f0, .int .i64 f1, .int .i64 k1, .int .i64 k2, .int .i64 k3, .int .i64 b1, .int .i64 b2, .int .i64 b3, .string f4, .int .i64 f5, .slice A f6.length c] : Array Value).toList _ (rangeAt_blk HF.out) Try.underlying55 rfl (inf11 rfl) ?_)
     | (go_at_call 31; refine (keep_x (HS.out.below HBn.out) HN.out.1 HN.out.2.1 (by have := HN.out.2.2; have := HJ.out; omega) f0 f1 k1 k2 k3 b1 b2 b3 f4 f5 f6 HPX.out A c (Kd.C_below HCC.out HBn.out) HCAP.out).mono ?_; rintro e w3 ⟨rfl, ho3, hs3⟩; have HO3 := Lib.hid ((Only.of_below HBn.out).trans ho3); have HS3 := Lib.hid hs3; clear ho3 hs3))
    cases gk with
    | zero => exact absurd HJ.out (by omega)
    | succ kk =>
      go_roundg kk
      case measure => omega
      case rel =>
       exact ⟨j + 1, by rw [e1], by have := HJ.out; omega, by have := HJ.out; omega, HO.out.trans HO3.out, by rw [keepAll_snoc bytes L l j _ HX.out]; exact HS3.out, Kd.R_step HRR.out (fun k hk hlt => HO3.out.block k hlt (by have := HW.out.gb.1; omega) (by have := HW.out.gb.2; omega))⟩
  · have d1 : decide ((j : Int) < (l.length : Int)) = false := decide_eq_false (by omega)
    have hje : j = l.length := by omega
    subst hje
    have HO := Lib.hid ho
    have HS := Lib.hid hs
    clear ho hs hr hj hjl c
    go_wp2
    refine bodyPost_ret (results_tmp2 rfl _ _ _) rfl ?_
    have h1 := HS.out
    rw [List.take_length] at h1
    exact ⟨rfl, HO.out, h1⟩
def eqK (a b : S52) : Bool := a.f0 == b.f0 && (a.f1 == b.f1 && a.f2 == b.f2)
def hasK (keys : List S52) (q : S52) : Bool := keys.any (fun k => eqK q k)
set_option maxRecDepth 100000 in
theorem eq52 (q0 q1 q2 k0 k1 k2 : Int) (w : World) : (binOp .eql 52 (.agg #[.int .i64 q0, .int .i64 q1, .int .i64 q2]) (.agg #[.int .i64 k0, .int .i64 k1, .int .i64 k2])).run Try.prog w = .ok (.bool (eqK ⟨q0, q1, q2⟩ ⟨k0, k1, k2⟩)) w := by
 have hu52 := Try.underlying52
 unfold eqK
 go_simp
 by_cases h0 : q0 = k0
 · by_cases h1 : q1 = k1
   · by_cases h2 : q2 = k2
     · simp [h0, h1, h2]
     · simp [h0, h1, h2]
   · simp [h0, h1]
 · simp [h0]
theorem elem52 {gk n : Nat} {w : World} {l : List S52} {j : Nat} {x : S52} (hC : Kd.C k52 w (some ⟨gk, 0, none⟩) n l) (hx : l[j]? = some x) :
 w.cell? ⟨gk, j * 3, none⟩ = some (.int .i64 x.f0) ∧ w.cell? ⟨gk, j * 3 + 1, none⟩ = some (.int .i64 x.f1) ∧ w.cell? ⟨gk, j * 3 + 2, none⟩ = some (.int .i64 x.f2) := by
 obtain ⟨hn, _, h3⟩ := hC
 have hj : j < l.length := (List.getElem?_eq_some_iff.1 hx).1
 obtain ⟨ad, e1, h4⟩ := h3 (by omega)
 cases e1
 obtain ⟨cs, h5, h6, h7⟩ := h4 j x hx
 obtain rfl := k52_open h6
 have key : ∀ i u, [Value.int .i64 x.f0, .int .i64 x.f1, .int .i64 x.f2][i]? = some u → w.cell? ⟨gk, j * 3 + i, none⟩ = some u := fun i u hu => by
  have := h7 i u hu
  rw [Addr.add_mid, Nat.zero_add] at this
  exact this
 exact ⟨key 0 _ rfl, key 1 _ rfl, key 2 _ rfl⟩
set_option maxHeartbeats 4000000 in
set_option maxRecDepth 100000 in
theorem Index_c (keys : List S52) (q : S52) (A : Option Addr) (c : Nat) (w : World) (hC : Kd.C k52 w A keys.length keys) (hA : 0 < keys.length → ∃ gk, A = some ⟨gk, 0, none⟩) (hl : keys.length ≤ 100000) :
 Calls Try.prog 118 #[.slice A keys.length c, .agg #[.int .i64 q.f0, .int .i64 q.f1, .int .i64 q.f2]] w fun e w' => ∃ r : Int, e = .returned (.int .i64 r) ∧ decide (0 ≤ r) = hasK keys q ∧ Below w.heap.size w w' := by
 obtain ⟨q0, q1, q2⟩ := q
 have HB := Lib.hid (below_alloc (Below.refl w.heap.size w) (.cells #[.int .i64 q0, .int .i64 q1, .int .i64 q2] 52 (0, 0)))
 have HX := Lib.hid (blk_new w (.cells #[.int .i64 q0, .int .i64 q1, .int .i64 q2] 52 (0, 0)))
 have HC := Lib.hid (Kd.C_alloc hC (.cells #[.int .i64 q0, .int .i64 q1, .int .i64 q2] 52 (0, 0)))
 have HA := Lib.hid hA
 have HL := Lib.hid hl
 clear hC hA hl
 go_enter Try.func118, Try.ntmps118
 go_wp2
 go_loopg [5, 8] (keys.length + 1) (fun kq v5 v8 w' => ∃ (j : Nat), v8 = .int .i64 (j : Int) ∧ j + kq = keys.length + 1 ∧ j ≤ keys.length ∧ Below w.heap.size w w' ∧ Kd.C k52 w' A keys.length keys ∧ w'.heap[w.heap.size]? = some (.cells #[.int .i64 q0, .int .i64 q1, .int .i64 q2] 52 (0, 0)) ∧ hasK (keys.take j) ⟨q0, q1, q2⟩ = false)
 case atStart => exact ⟨0, rfl, by omega, by omega, HB.out, HC.out, HX.out, rfl⟩
 case round =>
  obtain ⟨j, rfl, hj, hjl, hb, hC, hx, hn⟩ := hrel
  have HBr := Lib.hid hb.drew
  have HCr := Lib.hid (Kd.C_drew hC)
  have HXr := Lib.hid (show wr.drew.heap[w.heap.size]? = _ from hx)
  have HJ := Lib.hid (show j + gk = keys.length + 1 ∧ j ≤ keys.length from ⟨hj, hjl⟩)
  have HN := Lib.hid hn
  have HB0 := Lib.hid hb
  by_cases c0 : j < keys.length
  · have d1 : decide ((j : Int) < (keys.length : Int)) = true := decide_eq_true (by omega)
    obtain ⟨k, hk⟩ : ∃ x, keys[j]? = some x := ⟨keys[j], List.getElem?_eq_getElem c0⟩
    obtain ⟨g, rfl⟩ := HA.out (by omega)
    obtain ⟨p0, p1, p2⟩ := elem52 HCr.out hk
    obtain ⟨k0, k1, k2⟩ := k
    simp only at p0 p1 p2
    have b0 := ck HXr.out 0 _ rfl
    have b1 := ck HXr.out 1 _ rfl
    have b2 := ck HXr.out 2 _ rfl
    have i1 : ((0 : Int) ≤ (j : Int)) = True := eq_true (by omega)
    have i2 : ((j : Int) < (keys.length : Int)) = True := eq_true (by omega)
    have e1 : wrap64 ((j : Int) + 1) = ((j + 1 : Nat) : Int) := by rw [rl64 (by have := HL.out; omega) (by have := HL.out; omega)]; omega
    have HK := Lib.hid hk
    have ht : hasK (keys.take (j + 1)) ⟨q0, q1, q2⟩ = eqK ⟨q0, q1, q2⟩ ⟨k0, k1, k2⟩ := by
     have h1 := HN.out
     unfold hasK at h1 ⊢
     rw [List.take_add_one, hk]
     simp only [Option.toList_some, List.any_append, h1, List.any_cons, List.any_nil, Bool.or_false, Bool.false_or]
    have HT := Lib.hid ht
    clear hb hC hx hn hj hjl hk ht
    by_cases ce : eqK ⟨q0, q1, q2⟩ ⟨k0, k1, k2⟩ = true
    · have HE := Lib.hid ce
      have cf := eq52 q0 q1 q2 k0 k1 k2
      rw [ce] at cf
      clear ce
      go_wp2
      refine start_ (n := 6) (S := fun w' => w'.cell? ⟨w.heap.size, 0, none⟩ = some (.int .i64 q0) ∧ w'.cell? ⟨w.heap.size, 1, none⟩ = some (.int .i64 q1) ∧ w'.cell? ⟨w.heap.size, 2, none⟩ = some (.int .i64 q2) ∧ w'.cell? ⟨g, j * 3, none⟩ = some (.int .i64 k0) ∧ w'.cell? ⟨g, j * 3 + 1, none⟩ = some (.int .i64 k1) ∧ w'.cell? ⟨g, j * 3 + 2, none⟩ = some (.int .i64 k2)) (ds := []) #[false, false, false, false, false, false] (by kernel_rfl) rfl rfl ⟨b0, b1, b2, p0, p1, p2⟩ (fun hHeld => ?_)
      refine pA 1 (some 12) rfl rfl zal1 zal0 ?_
      refine pA 2 (some 13) rfl rfl zal1 zal0 ?_
      refine pA 3 (some 14) rfl rfl zal1 zal0 ?_
      refine tA 0 (some 11) rfl rfl zal2 hHeld zal0 ?_
      refine tA 4 (some 15) rfl rfl zal2 hHeld zal0 ?_
      refine pA 5 (some 16) rfl rfl zal1 zal0 ?_
      refine done_ (by kernel_rfl) ?_
      go_wp2
      go_ret
      refine ⟨(j : Int), rfl, ?_, HBr.out⟩
      rw [show decide ((0 : Int) ≤ (j : Int)) = true from decide_eq_true (by omega)]
      have h1 := HT.out
      rw [HE.out] at h1
      unfold hasK at h1 ⊢
      rw [List.any_eq_true] at h1
      obtain ⟨y, hy, hy2⟩ := h1
      exact (List.any_eq_true.2 ⟨y, List.mem_of_mem_take hy, hy2⟩).symm
    · have ce : eqK ⟨q0, q1, q2⟩ ⟨k0, k1, k2⟩ = false := by simpa using ce
      have HE := Lib.hid ce
      have cf := eq52 q0 q1 q2 k0 k1 k2
      rw [ce] at cf
      clear ce
      go_wp2
      refine start_ (n := 6) (S := fun w' => w'.cell? ⟨w.heap.size, 0, none⟩ = some (.int .i64 q0) ∧ w'.cell? ⟨w.heap.size, 1, none⟩ = some (.int .i64 q1) ∧ w'.cell? ⟨w.heap.size, 2, none⟩ = some (.int .i64 q2) ∧ w'.cell? ⟨g, j * 3, none⟩ = some (.int .i64 k0) ∧ w'.cell? ⟨g, j * 3 + 1, none⟩ = some (.int .i64 k1) ∧ w'.cell? ⟨g, j * 3 + 2, none⟩ = some (.int .i64 k2)) (ds := []) #[false, false, false, false, false, false] (by kernel_rfl) rfl rfl ⟨b0, b1, b2, p0, p1, p2⟩ (fun hHeld => ?_)
      refine pA 1 (some 12) rfl rfl zal1 zal0 ?_
      refine pA 2 (some 13) rfl rfl zal1 zal0 ?_
      refine pA 3 (some 14) rfl rfl zal1 zal0 ?_
      refine tA 0 (some 11) rfl rfl zal2 hHeld zal0 ?_
      refine tA 4 (some 15) rfl rfl zal2 hHeld zal0 ?_
      refine pA 5 (some 16) rfl rfl zal1 zal0 ?_
      refine done_ (by kernel_rfl) ?_
      go_wp2
      cases gk with
      | zero => exact absurd HJ.out (by omega)
      | succ kk =>
        go_roundg kk
        case measure => omega
        case rel => exact ⟨j + 1, by rw [e1], by have := HJ.out; omega, by omega, HBr.out, HCr.out, HXr.out, HT.out.trans HE.out⟩
  · have d1 : decide ((j : Int) < (keys.length : Int)) = false := decide_eq_false (by omega)
    have hje : j = keys.length := by omega
    subst hje
    clear hb hC hx hn hj hjl
    go_wp2
    go_ret
    refine ⟨-1, rfl, ?_, HB0.out⟩
    have h1 := HN.out
    rw [List.take_length] at h1
    rw [h1]
    rfl
set_option maxHeartbeats 4000000 in
set_option maxRecDepth 100000 in
theorem Contains_c (keys : List S52) (q : S52) (A : Option Addr) (c : Nat) (w : World) (hC : Kd.C k52 w A keys.length keys) (hA : 0 < keys.length → ∃ gk, A = some ⟨gk, 0, none⟩) (hl : keys.length ≤ 100000) :
 Calls Try.prog 104 #[.slice A keys.length c, .agg #[.int .i64 q.f0, .int .i64 q.f1, .int .i64 q.f2]] w fun e w' => e = .returned (.bool (hasK keys q)) ∧ Below w.heap.size w w' := by
 have HB := Lib.hid (below_alloc (Below.refl w.heap.size w) (.cells #[.int .i64 q.f0, .int .i64 q.f1, .int .i64 q.f2] 52 (0, 0)))
 have HC := Lib.hid (Kd.C_alloc hC (.cells #[.int .i64 q.f0, .int .i64 q.f1, .int .i64 q.f2] 52 (0, 0)))
 have HA := Lib.hid hA
 have HL := Lib.hid hl
 clear hC hA hl
 go_enter Try.func104, Try.ntmps104
 go_wp2_with (go_at_call 118; refine (Index_c keys q A c _ HC.out HA.out HL.out).mono ?_; rintro e w1 ⟨r, rfl, hr, hb⟩; have HR := Lib.hid hr; have HB1 := Lib.hid (HB.out.trans (hb.mono HB.out.size)); clear hr hb)
 go_ret
 exact ⟨by rw [← HR.out]; rfl, HB1.out⟩
def wants (font : ByteArray) (v : Int) (keys : List S52) (p : S55) : Bool := (p.f0.toList == font.toList) && ((p.f1 == v) && hasK keys p.f2)
def askL (font : ByteArray) (v : Int) (keys : List S52) (L : List S55) : List S55 := L.filter (wants font v keys)
def kPp : Kd Kp where
 sz := 11
 E := []
 K := fun _ x cs => cs = pcells x.p x.A x.c
 M := fun _ _ _ x cs => cs = pcells x.p x.A x.c
 K_len := by rintro w x cs rfl; rfl
 K_one := by
  rintro w x cs rfl u hu
  simp [pcells] at hu
  rcases hu with rfl | rfl | rfl | rfl | rfl | rfl | rfl | rfl | rfl | rfl | rfl <;> rfl
 K_below := fun _ h => h
 K_of_M := fun h => h
 M_mono := fun _ h => h
 M_bound := fun h => h
 M_move := fun _ h => h
 M_lower := fun _ h => h
theorem kPp_C {w : World} {A : Option Addr} {n : Nat} {X : List Kp} (h : Kd.C kPp w A n X) (hg : ∀ x ∈ X, x.p.f6.length ≤ x.c ∧ Kd.C Kd.string w x.A x.p.f6.length x.p.f6) : Kd.C k55 w A (X.map Kp.p).length (X.map Kp.p) := by
 obtain ⟨h1, h2, h3⟩ := h
 have hl : (X.map Kp.p).length = n := by rw [List.length_map]; exact h1
 refine ⟨rfl, by omega, fun hn => ?_⟩
 obtain ⟨ad, rfl, hc⟩ := h3 (by omega)
 refine ⟨ad, rfl, fun j p hp => ?_⟩
 rw [List.getElem?_map] at hp
 obtain ⟨x, hx, rfl⟩ := Option.map_eq_some_iff.1 hp
 obtain ⟨cs, c1, c2, c3⟩ := hc j x hx
 have c2 : cs = pcells x.p x.A x.c := c2
 subst c2
 obtain ⟨g1, g2⟩ := hg x (List.mem_of_getElem? hx)
 exact ⟨_, c1, k55_mk w x.p g1 g2, c3⟩
theorem elemK {e base ga n c : Nat} {ok : Nat → Prop} {w : World} {l : List Kp} {j : Nat} {x : Kp} (h : Kd.R kKp e w base ok (.slice (some ⟨ga, 0, none⟩) n c) l) (hx : l[j]? = some x) : w.rangeAt ga (j * 13) x.cells := by
 obtain ⟨hn, _, hC⟩ := Kd.R_reads' h
 obtain ⟨_, _, h3⟩ := hC
 have hj : j < l.length := (List.getElem?_eq_some_iff.1 hx).1
 obtain ⟨ad, e1, h4⟩ := h3 (by omega)
 cases e1
 obtain ⟨cs, h5, h6, h7⟩ := h4 j x hx
 have h6 : cs = x.cells := h6
 subst h6
 intro i u hu
 have := h7 i u hu
 rw [Addr.add_mid, Nat.zero_add] at this
 exact this
theorem one13 {a0 : ByteArray} {a1 a2 a3 a4 a5 a6 a7 : Int} {a8 : ByteArray} {a9 : Int} {A : Option Addr} {n c : Nat} {s t : Int} : (#[Value.string a0, .int .i64 a1, .int .i64 a2, .int .i64 a3, .int .i64 a4, .int .i64 a5, .int .i64 a6, .int .i64 a7, .string a8, .int .i64 a9, .slice A n c, .int .i64 s, .int .i64 t] : Array Value).all (·.oneCell') = true := by simp [Value.oneCell']
theorem inf13 {cs : Array Value} (h : cs.size = 13) : (Try.prog.info? 117).map (·.size) = some cs.size := by rw [h]; kernel_rfl
theorem info55' : (Try.prog.info? 55).map (fun i => (i.zero, i.size, i.bytes)) = some (some (.agg ZP), kPp.sz, 120) := by kernel_rfl
theorem und42 : Try.prog.underlying 42 = some (.slice 55) := by kernel_rfl
abbrev ZK : Array Value := #[.string ⟨#[]⟩, .int .i64 0, .int .i64 0, .int .i64 0, .int .i64 0, .int .i64 0, .int .i64 0, .int .i64 0, .string ⟨#[]⟩, .int .i64 0, .slice none 0 0, .int .i64 0, .int .i64 0]
theorem told_n (k : Nat) (A : Option Addr) (c : Nat) (X : List Kp) (r : ByteArray) (w : World) (hr : Kd.C k55 w A (X.map Kp.p).length (X.map Kp.p)) (hc : (X.map Kp.p).length ≤ c) (h : relay_Told.f k (X.map Kp.p) = some r) :
 Calls Try.prog 21 #[.slice A X.length c] w fun e w' => e = .returned (.string r) ∧ Below w.heap.size w w' := by
 rw [← List.length_map (f := Kp.p)]
 exact relay_Told.calls k A c _ r w hr hc h
theorem filter_snoc {α : Type} (f : α → Bool) (l : List α) (j : Nat) (x : α) (hx : l[j]? = some x) : (l.take (j + 1)).filter f = (l.take j).filter f ++ (if f x then [x] else []) := by
 rw [List.take_add_one, hx]
 simp only [Option.toList_some, List.filter_append]
 congr 1
 by_cases h : f x = true
 · rw [List.filter_cons_of_pos h, if_pos h]; rfl
 · rw [List.filter_cons_of_neg h, if_neg h]; rfl
set_option maxHeartbeats 8000000 in
set_option maxRecDepth 100000 in
theorem asked_c {w : World} {g b : Nat} {no bytes : Int} {N : Nat} {L : List S55} (h : RS w g b no bytes N L) (hN : N ≤ 9000) (s font : ByteArray) (v : Int) (keys : List S52) (hA : Ev (fun k => relay_Asked.f k s) (font, v, keys, true)) (hkl : keys.length ≤ 1000) (fr tw : Int) :
 Calls Try.prog 79 #[.pointer (some ⟨g, 0, none⟩), .agg #[.int .i64 fr, .int .i64 tw, .string s]] w fun e w' => ∃ gm, e = .returned (.tuple #[.slice (some ⟨gm, 0, none⟩) 1 1, .bool true]) ∧ w.heap.size ≤ gm ∧ w'.heap[gm]? = some (.cells #[.int .i64 no, .int .i64 fr, .string (ToldB (askL font v keys L))] 68 (0, 0)) ∧ Below w.heap.size w w' := by
 obtain ⟨k, hk⟩ := hA.rounds
 have HA := Lib.hid hk
 have HW := Lib.hid h
 have HB := Lib.hid (below_alloc (Below.refl w.heap.size w) (.cells #[.int .i64 fr, .int .i64 tw, .string s] 68 (0, 0)))
 have HX := Lib.hid (blk_new w (.cells #[.int .i64 fr, .int .i64 tw, .string s] 68 (0, 0)))
 have HN := Lib.hid hN
 have HKL := Lib.hid hkl
 clear hk hA h hN hkl
 obtain ⟨clk, l, hl⟩ := HW.out
 have HRS := Lib.hid hl
 have hlen : l.length ≤ 100000 := by have := hl.lN; have := HN.out; omega
 have HLEN := Lib.hid hlen
 have HCK := Lib.hid (show clk ≤ 4611686018427387904 by have := hl.cN; have := HN.out; omega)
 clear hl hlen
 go_enter Try.func79, Try.ntmps79
 go_wp2_with (first
  | (go_at_call 17; refine (relay_Asked.calls k s font v keys true _ HA.out).mono ?_; rintro e w1 ⟨v1, rfl, hr, hb⟩; obtain ⟨A1, cq1, rfl⟩ := Kd.R_slice hr; have HK1 := Lib.hid (show 0 < keys.length → ∃ gk, A1 = some ⟨gk, 0, none⟩ from fun hn => R_some hr hn); have HKC := Lib.hid (Kd.R_reads' hr).2.2; have HB1 := Lib.hid (HB.out.trans (hb.mono HB.out.size)); have HX1 := Lib.hid (blk_below HX.out hb); clear hr hb)
  | (go_at_call 73; refine (order_c (HRS.out.rel.below HB1.out) (by have := HLEN.out; omega) HCK.out).mono ?_; rintro e w2 ⟨v2, rfl, hr, hb⟩; obtain ⟨A2, c2, rfl⟩ := Kd.R_slice hr; have HO := Lib.hid (Kd.R_lower hr HB1.out.size); have HB2 := Lib.hid (HB1.out.trans (hb.mono HB1.out.size)); have HX2 := Lib.hid (blk_below HX1.out hb); have HKC2 := Lib.hid (Kd.C_below HKC.out hb); clear hr hb))
 have HO2 := HO
 go_loopg [10, 26] (l.length + 1) (fun kq v10 v26 w' => ∃ (j : Nat) (X : List Kp), v26 = .int .i64 (j : Int) ∧ j + kq = l.length + 1 ∧ j ≤ l.length ∧ Below w2.heap.size w2 w' ∧ Kd.R kPp 55 w' w2.heap.size (fun _ => True) v10 X ∧ X = (l.take j).filter (fun x => wants font v keys x.p))
 case atStart => exact ⟨0, [], rfl, by omega, by omega, Below.refl _ _, Kd.R_nil _ _ _ _ _, rfl⟩
 case round =>
  obtain ⟨j, X, rfl, hj, hjl, hb, hr, hX⟩ := hrel
  have HBr := Lib.hid hb
  have HRr := Lib.hid hr
  have HXE := Lib.hid hX
  have HJ := Lib.hid (show j + gk = l.length + 1 ∧ j ≤ l.length from ⟨hj, hjl⟩)
  by_cases c0 : j < l.length
  · have d1 : decide ((j : Int) < (l.length : Int)) = true := decide_eq_true (by omega)
    obtain ⟨ga, hga⟩ := R_some HO2.out (by omega)
    subst hga
    obtain ⟨x, hx⟩ : ∃ x, l[j]? = some x := ⟨l[j], List.getElem?_eq_getElem c0⟩
    have hrg := elemK (Kd.R_below HO2.out HBr.out) hx
    have hsn := filter_snoc (fun x => wants font v keys x.p) l j x hx
    obtain ⟨⟨f0, f1, ⟨k1, k2, k3⟩, ⟨b1, b2, b3⟩, f4, f5, f6⟩, A, c, sz, tm⟩ := x
    simp only [Kp.cells] at hrg
    have HRG := Lib.hid hrg
    have HSN := Lib.hid hsn
    have i1 : ((0 : Int) ≤ (j : Int)) = True := eq_true (by omega)
    have i2 : ((j : Int) < (l.length : Int)) = True := eq_true (by omega)
    have e1 : wrap64 ((j : Int) + 1) = ((j + 1 : Nat) : Int) := by rw [rl64 (by have := HLEN.out; omega) (by have := HLEN.out; omega)]; omega
    have HF := Lib.hid (setCells_full #[.string f0, .int .i64 f1, .int .i64 k1, .int .i64 k2, .int .i64 k3, .int .i64 b1, .int .i64 b2, .int .i64 b3, .string f4, .int .i64 f5, .slice A f6.length c, .int .i64 sz, .int .i64 tm] (blk_new wr (.cells ZK 117 (0, 0))) rfl)
    have HBs := Lib.hid (below_cells (Nat.le_refl _) (#[.string f0, .int .i64 f1, .int .i64 k1, .int .i64 k2, .int .i64 k3, .int .i64 b1, .int .i64 b2, .int .i64 b3, .string f4, .int .i64 f5, .slice A f6.length c, .int .i64 sz, .int .i64 tm] : Array Value).toList 0 _ (below_alloc (Below.refl wr.heap.size wr) (.cells ZK 117 (0, 0))))
    clear hx hrg hsn hb hr hj hjl hX
    go_upto_region 8 with (first
     | (refine wpList_load_mid rfl 117 (.tmp 28) rfl ga (j * 13) rfl (#[.string f0, .int .i64 f1, .int .i64 k1, .int .i64 k2, .int .i64 k3, .int .i64 b1, .int .i64 b2, .int .i64 b3, .string f4, .int .i64 f5, .slice A f6.length c, .int .i64 sz, .int .i64 tm] : Array Value).toList _ HRG.out Try.underlying117 rfl (inf13 rfl) ?_)
     | (refine wpList_store_mid rfl 117 (.tmp 12) (.tmp 29) rfl _ 0 #[.string f0, .int .i64 f1, .int .i64 k1, .int .i64 k2, .int .i64 k3, .int .i64 b1, .int .i64 b2, .int .i64 b3, .string f4, .int .i64 f5, .slice A f6.length c, .int .i64 sz, .int .i64 tm] rfl rfl (there_blk (blk_new _ _) rfl) (inf13 rfl) one13 ?_))
    obtain ⟨Q, hQ⟩ : ∃ Q, Q = wr.heap.size := ⟨_, rfl⟩
    rw [← hQ] at HF HBs
    simp only [← hQ]
    generalize (wr.alloc (.cells ZK 117 (0, 0))).setCells Q 0 (#[.string f0, .int .i64 f1, .int .i64 k1, .int .i64 k2, .int .i64 k3, .int .i64 b1, .int .i64 b2, .int .i64 b3, .string f4, .int .i64 f5, .slice A f6.length c, .int .i64 sz, .int .i64 tm] : Array Value).toList = wn at HF HBs ⊢
    have HBn := Lib.hid (HBr.out.trans (show Below w2.heap.size wr wn from (hQ ▸ HBs.out : Below wr.heap.size wr wn).mono HBr.out.size))
    have HRn := Lib.hid (Kd.R_below HRr.out (hQ ▸ HBs.out : Below wr.heap.size wr wn))
    have p0 := ck HF.out 0 _ rfl
    have p1 := ck HF.out 1 _ rfl
    have p2 := ck HF.out 2 _ rfl
    have p3 := ck HF.out 3 _ rfl
    have p4 := ck HF.out 4 _ rfl
    clear hQ
    cases c1 : (f0.toList == font.toList) with
    | false =>
      have hw : wants font v keys ⟨f0, f1, ⟨k1, k2, k3⟩, ⟨b1, b2, b3⟩, f4, f5, f6⟩ = false := by unfold wants; simp only [c1, Bool.false_and]
      have HWN := Lib.hid hw
      clear hw
      go_wp2
      cases gk with
      | zero => exact absurd HJ.out.1 (by omega)
      | succ kk =>
        go_roundg kk
        case measure => omega
        case rel =>
         have h1 := HSN.out
         simp only [HWN.out, Bool.false_eq_true, if_false, List.append_nil] at h1
         exact ⟨j + 1, X, by first | rw [e1] | rfl, by have := HJ.out.1; omega, by omega, HBn.out, HRn.out, HXE.out.trans h1.symm⟩
    | true =>
      cases c2 : (f1 == v) with
      | false =>
        have hw : wants font v keys ⟨f0, f1, ⟨k1, k2, k3⟩, ⟨b1, b2, b3⟩, f4, f5, f6⟩ = false := by unfold wants; simp only [c1, c2, Bool.false_and, Bool.and_false]
        have HWN := Lib.hid hw
        clear hw
        go_wp2
        cases gk with
        | zero => exact absurd HJ.out.1 (by omega)
        | succ kk =>
          go_roundg kk
          case measure => omega
          case rel =>
           have h1 := HSN.out
           simp only [HWN.out, Bool.false_eq_true, if_false, List.append_nil] at h1
           exact ⟨j + 1, X, by first | rw [e1] | rfl, by have := HJ.out.1; omega, by omega, HBn.out, HRn.out, HXE.out.trans h1.symm⟩
      | true =>
        cases c3 : hasK keys ⟨k1, k2, k3⟩ with
        | false =>
          have hw : wants font v keys ⟨f0, f1, ⟨k1, k2, k3⟩, ⟨b1, b2, b3⟩, f4, f5, f6⟩ = false := by unfold wants; simp only [c1, c2, c3, Bool.and_false]
          have HWN := Lib.hid hw
          clear hw
          go_wp2_with (go_at_call 104; refine (Contains_c keys ⟨k1, k2, k3⟩ A1 cq1 _ (Kd.C_below HKC2.out HBn.out) HK1.out (by have := HKL.out; omega)).mono ?_; rintro e w5 ⟨rfl, hb5⟩; have HB5 := Lib.hid (HBn.out.trans (hb5.mono HBn.out.size)); have HR5 := Lib.hid (Kd.R_below HRn.out hb5); clear hb5; simp only [c3])
          cases gk with
          | zero => exact absurd HJ.out.1 (by omega)
          | succ kk =>
            go_roundg kk
            case measure => omega
            case rel =>
             have h1 := HSN.out
             simp only [HWN.out, Bool.false_eq_true, if_false, List.append_nil] at h1
             exact ⟨j + 1, X, by first | rw [e1] | rfl, by have := HJ.out.1; omega, by omega, HB5.out, HR5.out, HXE.out.trans h1.symm⟩
        | true =>
          have hw : wants font v keys ⟨f0, f1, ⟨k1, k2, k3⟩, ⟨b1, b2, b3⟩, f4, f5, f6⟩ = true := by unfold wants; simp only [c1, c2, c3, Bool.and_true]
          have HWN := Lib.hid hw
          clear hw
          go_upto_region 9 with (go_at_call 104; refine (Contains_c keys ⟨k1, k2, k3⟩ A1 cq1 _ (Kd.C_below HKC2.out HBn.out) HK1.out (by have := HKL.out; omega)).mono ?_; rintro e w5 ⟨rfl, hb5⟩; have HB5 := Lib.hid (HBn.out.trans (hb5.mono HBn.out.size)); have HR5 := Lib.hid (Kd.R_below HRn.out hb5); have HF5 := Lib.hid (blk_below HF.out hb5); clear hb5; simp only [c3])
          have hr11 : w5.rangeAt Q 0 (#[.string f0, .int .i64 f1, .int .i64 k1, .int .i64 k2, .int .i64 k3, .int .i64 b1, .int .i64 b2, .int .i64 b3, .string f4, .int .i64 f5, .slice A f6.length c] : Array Value).toList := fun i u hu => (rangeAt_blk HF5.out) i u (by
           have h0 : (#[.string f0, .int .i64 f1, .int .i64 k1, .int .i64 k2, .int .i64 k3, .int .i64 b1, .int .i64 b2, .int .i64 b3, .string f4, .int .i64 f5, .slice A f6.length c] : Array Value).toList = (#[.string f0, .int .i64 f1, .int .i64 k1, .int .i64 k2, .int .i64 k3, .int .i64 b1, .int .i64 b2, .int .i64 b3, .string f4, .int .i64 f5, .slice A f6.length c, .int .i64 sz, .int .i64 tm] : Array Value).toList.take 11 := rfl
           rw [h0, List.getElem?_take] at hu
           split at hu
           · exact hu
           · cases hu)
          have HR11 := Lib.hid hr11
          clear hr11 p0 p1 p2 p3 p4
          go_wp2_with (first
           | (refine wpList_load_mid rfl 55 (.tmp 50) rfl Q 0 rfl (#[.string f0, .int .i64 f1, .int .i64 k1, .int .i64 k2, .int .i64 k3, .int .i64 b1, .int .i64 b2, .int .i64 b3, .string f4, .int .i64 f5, .slice A f6.length c] : Array Value).toList _ HR11.out Try.underlying55 rfl (inf11 rfl) ?_)
           | ((with_reducible refine gate_builtin (b := .append) (xs := #[.tmp 49, .tmp 52]) rfl ?_); at_builtin
              go_loud (refine Kd.R_append kPp (w0 := w2) (W := w5) w2.heap.size rfl (.tmp 49) (.tmp 52) 42 55 (.agg ZP) 120 rfl und42 info55' rfl (show 0 < 11 by omega) (by omega) u10 X (⟨⟨f0, f1, ⟨k1, k2, k3⟩, ⟨b1, b2, b3⟩, f4, f5, f6⟩, A, c, sz, tm⟩ : Kp) [.string f0, .int .i64 f1, .int .i64 k1, .int .i64 k2, .int .i64 k3, .int .i64 b1, .int .i64 b2, .int .i64 b3, .string f4, .int .i64 f5, .slice A f6.length c] (fun _ => True) (fun _ => False) rfl ?aX ?aP (fun _ hk => hk.elim) ?aF ?aO ?aB ?aS ?aL ?_)
              go_loud (case aX => rfl)
              go_loud (case aP => exact rfl)
              go_loud (case aF => exact fun _ _ => trivial)
              go_loud (case aO => exact HR5.out)
              go_loud (case aB => exact HB5.out)
              go_loud (case aS => exact HB5.out.size)
              go_loud (case aL => have h_ := congrArg List.length HXE.out; have h2_ := List.length_filter_le (fun x : Kp => wants font v keys x.p) (l.take j); rw [List.length_take] at h2_; have := HLEN.out; omega)
              intro v9 w9 ho9 hb9 hg9 hat9
              have HO9 := Lib.hid ho9
              have HB9 := Lib.hid hb9
              clear ho9 hb9 hg9 hat9))
          cases gk with
          | zero => exact absurd HJ.out.1 (by omega)
          | succ kk =>
            go_roundg kk
            case measure => omega
            case rel =>
             have h1 := HSN.out
             simp only [HWN.out, if_true] at h1
             exact ⟨j + 1, _, by first | rw [e1] | rfl, by have := HJ.out.1; omega, by omega, HB9.out, HO9.out, by rw [h1, HXE.out]⟩
  · have d1 : decide ((j : Int) < (l.length : Int)) = false := decide_eq_false (by omega)
    have hje : j = l.length := by omega
    subst hje
    obtain ⟨A3, c3, rfl⟩ := Kd.R_slice hr
    rw [List.take_length] at hX
    have hmap : X.map Kp.p = askL font v keys L := by
     unfold askL
     rw [← HRS.out.map, List.filter_map, hX]
     rfl
    have hok : ∀ p ∈ X.map Kp.p, POk p := fun p hp => by
     rw [hmap] at hp
     exact (HW.out.oks.1 p ((List.mem_filter.1 hp).1)).ok
    have hXl : (X.map Kp.p).length ≤ 9000 := by
     have h2 := HW.out.oks.2.1
     have h3 := HN.out
     have h4 : (askL font v keys L).length ≤ L.length := List.length_filter_le _ _
     rw [hmap]
     omega
    obtain ⟨kt, hkt⟩ := (Told_ev (X.map Kp.p) hXl hok).rounds
    have HT := Lib.hid hkt
    have hc3 : (X.map Kp.p).length ≤ c3 := by rw [List.length_map]; exact (Kd.R_reads' hr).2.1
    have HBw := Lib.hid (HB2.out.trans (hb.mono HB2.out.size)).drew
    have hCC : Kd.C k55 wr.drew A3 (X.map Kp.p).length (X.map Kp.p) := kPp_C (Kd.C_drew (Kd.R_reads' hr).2.2) (fun x hx => by
     have hxl : x ∈ l := by rw [hX] at hx; exact (List.mem_filter.1 hx).1
     have hgood := (HRS.out.rel.good x hxl).only (Only.of_below HBw.out)
     exact ⟨hgood.cap, Kd.F_now hgood.row⟩)
    have HCC := Lib.hid hCC
    have HC3 := Lib.hid hc3
    have HRD := Lib.hid (HRS.out.rel.below HBw.out)
    have hx_ := blk_below HX2.out hb
    have HXd := Lib.hid (show wr.drew.heap[w.heap.size]? = _ from hx_)
    clear hx_
    have HMP := Lib.hid hmap
    have hxl : X.length = (X.map Kp.p).length := (List.length_map ..).symm
    go_upto_region 11 with fail
    have q0 : wr.drew.cell? ⟨g, 0, none⟩ = some (.int .i64 no) := ck HRD.out.relay 0 _ rfl
    have b0 : wr.drew.cell? ⟨w.heap.size, 0, none⟩ = some (.int .i64 fr) := ck HXd.out 0 _ rfl
    have lg : g < wr.drew.heap.size := blk_lt HRD.out.relay
    have lx : w.heap.size < wr.drew.heap.size := blk_lt HXd.out
    clear hxl hX hmap hok hXl hkt hc3 hCC hb hr hj hjl c0
    refine start_ (n := 12) (S := fun w' => w'.cell? ⟨g, 0, none⟩ = some (.int .i64 no) ∧ w'.cell? ⟨w.heap.size, 0, none⟩ = some (.int .i64 fr)) (ds := []) #[false, false, false, false, false, false, false, false, false, false, false, false] (by kernel_rfl) rfl rfl ⟨q0, b0⟩ (fun hHeld => ?_)
    generalize wr.drew = wd at HBw HCC HRD HXd q0 b0 lg lx hHeld ⊢; have HX_ := Lib.hid (Below.refl wd.heap.size wd)
    refine pA 0 (some 55) rfl rfl zal1 zal0 ?_
    refine pA 1 (some 56) rfl rfl zal1 zal0 ?_
    refine pA 2 (some 57) rfl rfl zal1 zal0 ?_
    refine pA 4 (some 59) rfl rfl zal1 zal0 ?_
    refine pA 6 (some 61) rfl rfl zal1 zal0 ?_
    refine tA 3 (some 58) rfl rfl (by rintro w' ⟨s0, s1⟩; go_simp; with_reducible rfl) hHeld zal0 ?_
    refine tA 5 (some 60) rfl rfl (by rintro w' ⟨s0, s1⟩; go_simp; with_reducible rfl) hHeld zal0 ?_
    refine oA 7 (some 62) rfl rfl (fun K hK => ?_)
    refine goes_ Try.func21 (by kernel_rfl) rfl #[.slice A3 X.length c3] (by rfl) rfl rfl (by simp only [List.map_toArray, List.map_cons, List.map_nil]; rfl) ?_
    with_reducible refine (told_n kt A3 c3 X _ _ HCC.out HC3.out HT.out).mono ?_
    rintro e wx ⟨rfl, hbx⟩
    refine ⟨_, rfl, ?_⟩
    have n_ := Lib.hid (HX_.out.trans (hbx.mono HX_.out.size)); clear HX_; have HX_ := n_; clear n_
    refine hK.out _ _ ⟨(HX_.out.cell lg).trans q0, (HX_.out.cell lx).trans b0⟩ (fun hHeld => norm_ (by show Act.put _ (some _) _ = _; simp only [Act.put, nS]; rfl) ?_)
    clear hK K
    refine pA 8 (some 63) rfl rfl zal1 zal0 ?_
    refine oA 9 (some 64) rfl rfl (fun K hK => ?_)
    refine value_ (w1 := ?_) (v := ?_) (by rfl) rfl ?_ ?_
    rotate_left 2
    · go_simp
      constructor
      · rfl
      · rfl
    refine hK.out _ _ ⟨(below_alloc (Below.refl wx.heap.size wx) _).cell (Nat.lt_of_lt_of_le lg HX_.out.size) |>.trans ((HX_.out.cell lg).trans q0), (below_alloc (Below.refl wx.heap.size wx) _).cell (Nat.lt_of_lt_of_le lx HX_.out.size) |>.trans ((HX_.out.cell lx).trans b0)⟩ (fun hHeld => norm_ (by show Act.put _ (some _) _ = _; simp only [Act.put, nS]; rfl) ?_)
    clear hK K
    refine pA 10 (some 4) rfl rfl zal1 zal0 ?_
    refine pA 11 (some 5) rfl rfl zal1 zal0 ?_
    refine done_ (by kernel_rfl) ?_
    go_wp2
    refine bodyPost_ret (results_tmp2 rfl _ _ _) rfl ?_
    exact ⟨_, rfl, by have := HBw.out.size; have := HX_.out.size; omega, by rw [← HMP.out]; exact blk_new _ _, below_alloc (HBw.out.trans (HX_.out.mono HBw.out.size)) _⟩
theorem box68 {w : World} {X : Nat} {fr tw : Int} {s : ByteArray} (h : w.heap[X]? = some (.cells #[.int .i64 fr, .int .i64 tw, .string s] 68 (0, 0))) : w.cell? ⟨X, 0, none⟩ = some (.int .i64 fr) ∧ w.cell? ⟨X, 1, none⟩ = some (.int .i64 tw) ∧ w.cell? ⟨X, 2, none⟩ = some (.string s) := ⟨ck h 0 _ rfl, ck h 1 _ rfl, ck h 2 _ rfl⟩
set_option maxHeartbeats 4000000 in
set_option maxRecDepth 100000 in
theorem Take_other {w : World} {g b : Nat} {no bytes : Int} {N : Nat} {L : List S55} (h : RS w g b no bytes N L) (h0 : 0 < bytes) (fr tw : Int) (hne : tw ≠ no) (s : ByteArray) :
 Calls Try.prog 33 #[.pointer (some ⟨g, 0, none⟩), .agg #[.int .i64 fr, .int .i64 tw, .string s]] w fun e w' => e = .returned (.slice none 0 0) ∧ Below w.heap.size w w' := by
 have HB := Lib.hid (below_alloc (Below.refl w.heap.size w) (.cells #[.int .i64 fr, .int .i64 tw, .string s] 68 (0, 0)))
 obtain ⟨clk, l, hl⟩ := h.below HB.out
 have q1 := ck hl.rel.relay 1 _ rfl
 have q0 := ck hl.rel.relay 0 _ rfl
 obtain ⟨b0, b1, b2⟩ := box68 (blk_new w (.cells #[.int .i64 fr, .int .i64 tw, .string s] 68 (0, 0)))
 have e1 : (bytes == 0) = false := beq_eq_false_iff_ne.mpr (by omega)
 have e2 : (tw != no) = true := bne_iff_ne.mpr hne
 have e3 : (tw == no) = false := beq_eq_false_iff_ne.mpr hne
 clear h hl h0 hne
 go_enter Try.func33, Try.ntmps33
 go_wp2
 generalize w.alloc (.cells #[.int .i64 fr, .int .i64 tw, .string s] 68 (0, 0)) = w1 at HB q1 q0 b0 b1 b2 ⊢
 go_quiet (fail)
 go_wp2
 go_ret
 exact ⟨rfl, pw_below_drewN HB.out _⟩
set_option maxHeartbeats 8000000 in
set_option maxRecDepth 100000 in
theorem Take_told {w : World} {g b : Nat} {no bytes : Int} {N : Nat} {L : List S55} (h : RS w g b no bytes N L) (h0 : 0 < bytes) (hbig : bytes ≤ 1099511627776) (s : ByteArray) (l : List S55) (hT : Ev (fun k => relay_Tell.f k s) (l, true)) (hN : N + l.length ≤ 99999) (hp : ∀ p ∈ l, PK p) (fr tw : Int) (he : tw = no) :
 Calls Try.prog 33 #[.pointer (some ⟨g, 0, none⟩), .agg #[.int .i64 fr, .int .i64 tw, .string s]] w fun e w' => e = .returned (.slice none 0 0) ∧ Only g b w w' ∧ RS w' g b no bytes (N + l.length) (keepAll bytes L l) := by
 have HB := Lib.hid (below_alloc (Below.refl w.heap.size w) (.cells #[.int .i64 fr, .int .i64 tw, .string s] 68 (0, 0)))
 have HRS := Lib.hid (h.below HB.out)
 obtain ⟨clk, l0, hl⟩ := h.below HB.out
 have q1 := ck hl.rel.relay 1 _ rfl
 have q0 := ck hl.rel.relay 0 _ rfl
 have HBX := Lib.hid (blk_new w (.cells #[.int .i64 fr, .int .i64 tw, .string s] 68 (0, 0)))
 obtain ⟨b0, b1, b2⟩ := box68 HBX.out
 have e1 : (bytes == 0) = false := beq_eq_false_iff_ne.mpr (by omega)
 have e2 : (tw != no) = false := bne_eq_false_iff_eq.mpr he
 have e3 : (tw == no) = true := beq_iff_eq.mpr he
 have HT := Lib.hid hT
 have HN := Lib.hid (show 0 < bytes ∧ bytes ≤ 1099511627776 ∧ N + l.length ≤ 99999 from ⟨h0, hbig, hN⟩)
 have HP := Lib.hid hp
 clear h hl h0 hbig hN hp he hT
 go_enter Try.func33, Try.ntmps33
 go_wp2
 generalize w.alloc (.cells #[.int .i64 fr, .int .i64 tw, .string s] 68 (0, 0)) = w1 at HB HRS HBX q1 q0 b0 b1 b2 ⊢
 go_quiet (fail)
 clear q1 q0 b0 b1 b2 e1 e2 e3
 have HB2 := Lib.hid (pw_below_drewN HB.out nq)
 have HRS2 := Lib.hid (HRS.out.below (pw_below_drewN (Below.refl w1.heap.size w1) nq))
 have HBX2 := Lib.hid (show (w1.drewN nq).heap[w.heap.size]? = _ from HBX.out)
 generalize w1.drewN nq = w2 at HB2 HRS2 HBX2 ⊢
 clear HB HRS HBX
 go_upto_block 0 with fail
 have HB3 := Lib.hid (below_alloc HB2.out (.cells #[.func (.func 78) #[] #[], .func (.func 79) #[] #[]] 129 (0, 0)))
 have HRS3 := Lib.hid (HRS2.out.below (below_alloc (Below.refl w2.heap.size w2) (.cells #[.func (.func 78) #[] #[], .func (.func 79) #[] #[]] 129 (0, 0))))
 have HBX3 := Lib.hid (blk_alloc HBX2.out (.cells #[.func (.func 78) #[] #[], .func (.func 79) #[] #[]] 129 (0, 0)))
 have HFN := Lib.hid (blk_new w2 (.cells #[.func (.func 78) #[] #[], .func (.func 79) #[] #[]] 129 (0, 0)))
 generalize w2.alloc (.cells #[.func (.func 78) #[] #[], .func (.func 79) #[] #[]] 129 (0, 0)) = w3 at HB3 HRS3 HBX3 HFN ⊢
 go_wp2
 go_loopg [29] 1 (fun kq v29 w' => v29 = .int .i64 0 ∧ w' = w3)
 case atStart => exact ⟨rfl, rfl⟩
 case round =>
  obtain ⟨rfl, rfl⟩ := hrel
  obtain ⟨b0, b1, b2⟩ := box68 HBX3.out
  have f0 := ck HFN.out 0 _ rfl
  go_wp2_with (go_at_call 78; refine (told_c HRS3.out HN.out.1 HN.out.2.1 s l true HT.out HN.out.2.2 HP.out fr tw).mono ?_; rintro e w4 ⟨rfl, ho, hs⟩; have HO4 := Lib.hid ho; have HS4 := Lib.hid hs; clear ho hs)
  go_ret
  exact ⟨rfl, (Only.of_below HB3.out).trans HO4.out, HS4.out⟩
set_option maxHeartbeats 8000000 in
set_option maxRecDepth 100000 in
theorem Take_asked {w : World} {g b : Nat} {no bytes : Int} {N : Nat} {L : List S55} (h : RS w g b no bytes N L) (h0 : 0 < bytes) (hbig : bytes ≤ 1099511627776) (hN : N ≤ 9000) (s font : ByteArray) (v : Int) (keys : List S52) (hA : Ev (fun k => relay_Asked.f k s) (font, v, keys, true)) (hkl : keys.length ≤ 1000) (hT : Ev (fun k => relay_Tell.f k s) noTell) (fr tw : Int) (he : tw = no) :
 Calls Try.prog 33 #[.pointer (some ⟨g, 0, none⟩), .agg #[.int .i64 fr, .int .i64 tw, .string s]] w fun e w' => ∃ gm, e = .returned (.slice (some ⟨gm, 0, none⟩) 1 1) ∧ w.heap.size ≤ gm ∧ w'.heap[gm]? = some (.cells #[.int .i64 no, .int .i64 fr, .string (ToldB (askL font v keys L))] 68 (0, 0)) ∧ Only g b w w' ∧ RS w' g b no bytes N L := by
 have HB := Lib.hid (below_alloc (Below.refl w.heap.size w) (.cells #[.int .i64 fr, .int .i64 tw, .string s] 68 (0, 0)))
 have HRS := Lib.hid (h.below HB.out)
 obtain ⟨clk, l0, hl⟩ := h.below HB.out
 have q1 := ck hl.rel.relay 1 _ rfl
 have q0 := ck hl.rel.relay 0 _ rfl
 have HBX := Lib.hid (blk_new w (.cells #[.int .i64 fr, .int .i64 tw, .string s] 68 (0, 0)))
 obtain ⟨b0, b1, b2⟩ := box68 HBX.out
 have e1 : (bytes == 0) = false := beq_eq_false_iff_ne.mpr (by omega)
 have e2 : (tw != no) = false := bne_eq_false_iff_eq.mpr he
 have e3 : (tw == no) = true := beq_iff_eq.mpr he
 have HT := Lib.hid hT
 have HN := Lib.hid (show 0 < bytes ∧ bytes ≤ 1099511627776 ∧ N ≤ 9000 from ⟨h0, hbig, hN⟩)
 have HA := Lib.hid hA
 have HKL := Lib.hid hkl
 have HGB := Lib.hid h.gb
 clear h hl h0 hbig hN hkl he hT hA
 go_enter Try.func33, Try.ntmps33
 go_wp2
 generalize w.alloc (.cells #[.int .i64 fr, .int .i64 tw, .string s] 68 (0, 0)) = w1 at HB HRS HBX q1 q0 b0 b1 b2 ⊢
 go_quiet (fail)
 clear q1 q0 b0 b1 b2 e1 e2 e3
 have HB2 := Lib.hid (pw_below_drewN HB.out nq)
 have HRS2 := Lib.hid (HRS.out.below (pw_below_drewN (Below.refl w1.heap.size w1) nq))
 have HBX2 := Lib.hid (show (w1.drewN nq).heap[w.heap.size]? = _ from HBX.out)
 generalize w1.drewN nq = w2 at HB2 HRS2 HBX2 ⊢
 clear HB HRS HBX
 go_upto_block 0 with fail
 have HB3 := Lib.hid (below_alloc HB2.out (.cells #[.func (.func 78) #[] #[], .func (.func 79) #[] #[]] 129 (0, 0)))
 have HRS3 := Lib.hid (HRS2.out.below (below_alloc (Below.refl w2.heap.size w2) (.cells #[.func (.func 78) #[] #[], .func (.func 79) #[] #[]] 129 (0, 0))))
 have HBX3 := Lib.hid (blk_alloc HBX2.out (.cells #[.func (.func 78) #[] #[], .func (.func 79) #[] #[]] 129 (0, 0)))
 have HFN := Lib.hid (blk_new w2 (.cells #[.func (.func 78) #[] #[], .func (.func 79) #[] #[]] 129 (0, 0)))
 generalize w2.alloc (.cells #[.func (.func 78) #[] #[], .func (.func 79) #[] #[]] 129 (0, 0)) = w3 at HB3 HRS3 HBX3 HFN ⊢
 go_wp2
 go_loopg [29] 2 (fun kq v29 w' => (v29 = .int .i64 0 ∧ kq = 2 ∧ w' = w3) ∨ (v29 = .int .i64 1 ∧ kq = 1 ∧ Only g b w3 w' ∧ RS w' g b no bytes N L))
 case atStart => exact .inl ⟨rfl, rfl, rfl⟩
 case round =>
  have HLX := Lib.hid (show w.heap.size < w3.heap.size ∧ w2.heap.size < w3.heap.size ∧ w.heap.size ≤ w2.heap.size from ⟨blk_lt HBX3.out, blk_lt HFN.out, HB2.out.size⟩)
  rcases hrel with ⟨rfl, hk, rfl⟩ | ⟨rfl, hk, ho, hs⟩
  · obtain ⟨b0, b1, b2⟩ := box68 HBX3.out
    have f0 := ck HFN.out 0 _ rfl
    have HK := Lib.hid hk
    clear hk
    go_wp2_with (go_at_call 78; refine (told_c HRS3.out HN.out.1 HN.out.2.1 s [] false HT.out (by have := HN.out.2.2; simp; omega) (by simp) fr tw).mono ?_; rintro e w4 ⟨rfl, ho, hs⟩; have HO4 := Lib.hid ho; have HS4 := Lib.hid hs; clear ho hs)
    cases gk with
    | zero => exact absurd HK.out (by omega)
    | succ kk =>
      go_roundg kk
      case measure => omega
      case rel => exact .inr ⟨rfl, by have := HK.out; omega, HO4.out, HS4.out⟩
  · have hx4 := (ho.block w.heap.size HLX.out.1 (by have := HGB.out.1; omega) (by have := HGB.out.2; omega)).trans HBX3.out
    have hf4 := (ho.block w2.heap.size HLX.out.2.1 (by have h1 := HGB.out.1; have h2 := HLX.out.2.2; omega) (by have h1 := HGB.out.2; have h2 := HLX.out.2.2; omega)).trans HFN.out
    obtain ⟨b0, b1, b2⟩ := box68 hx4
    have f1 := ck hf4 1 _ rfl
    have HO := Lib.hid ho
    have HS := Lib.hid hs
    clear hk ho hs hx4 hf4
    go_wp2_with (go_at_call 79; refine (asked_c HS.out HN.out.2.2 s font v keys HA.out HKL.out fr tw).mono ?_; rintro e w5 ⟨gm, rfl, hgm, hcell, hb⟩; have HG5 := Lib.hid hgm; have HC5 := Lib.hid hcell; have HB5 := Lib.hid hb; clear hgm hcell hb)
    go_ret
    exact ⟨gm, rfl, by have h1 := HG5.out; have h2 := HO.out.size; have h3 := HLX.out.1; omega, HC5.out, ((Only.of_below HB3.out).trans HO.out).trans (Only.of_below HB5.out), HS.out.below HB5.out⟩
end Go.Proofs.Ythokkeljfdfppaa.Rl

