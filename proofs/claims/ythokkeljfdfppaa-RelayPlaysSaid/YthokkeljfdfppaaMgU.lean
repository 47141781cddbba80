/- Several texts of this claim, one behind the other: RpA, RpB, RpD. -/
import Derived.Test.YthokkeljfdfppaaMgN
/- The reference's relay: its state; what leaves it, and the program's own relay, as they are. -/
set_option linter.unusedVariables false
set_option linter.unusedSimpArgs false
namespace Go.Proofs.Ythokkeljfdfppaa.Rl
open Go.RowKit Go.Proofs.YthokkeljfdfppaaW.PrintWords Go.Proofs.YthokkeljfdfppaaW.PrintLast Go.Proofs.YthokkeljfdfppaaW.PrintMore Go.Proofs.Ythokkeljfdfppaa.Pb Go.Proofs.Ythokkeljfdfppaa.Gw Go.Proofs.Ythokkeljfdfppaa.Pure
theorem cell_same {w w' : World} {p : Addr} (h : w'.heap[p.block]? = w.heap[p.block]?) : w'.cell? p = w.cell? p := by
 unfold World.cell?
 rw [h]
theorem str_foot {w : World} {A : Option Addr} {n : Nat} {xs : List ByteArray} (h : Kd.C Kd.string w A n xs) : Kd.F Kd.string w (fun k => 0 < n ∧ ∃ ad, A = some ad ∧ k = ad.block) A n xs := by
 intro W' hW
 obtain ⟨h1, h2, h3⟩ := h
 refine ⟨h1, h2, fun hn => ?_⟩
 obtain ⟨ad, rfl, hc⟩ := h3 hn
 refine ⟨ad, rfl, fun j p hp => ?_⟩
 obtain ⟨cs, a, b, c⟩ := hc j p hp
 refine ⟨cs, a, b, fun i u hu => ?_⟩
 have h4 := c i u hu
 have h5 : (ad.add (j * Kd.string.sz + i)).block = ad.block := by unfold Addr.add; split <;> rfl
 rw [← h4]
 exact cell_same (by rw [h5]; exact hW ad.block ⟨hn, ad, rfl, rfl⟩ (h5 ▸ World.block_lt_of_cell? _ _ h4))
theorem str_ne {w : World} {A : Option Addr} {n g : Nat} {xs : List ByteArray} {cs : Array Value} {T : TypeId} {fr : Nat × Nat} (h : Kd.C Kd.string w A n xs) (hg : w.heap[g]? = some (.cells cs T fr)) (hs : ∀ (i : Nat) (s : ByteArray), cs[i]? ≠ some (.string s)) : ∀ k, (0 < n ∧ ∃ ad, A = some ad ∧ k = ad.block) → k ≠ g := by
 rintro k ⟨hn, ad, rfl, rfl⟩ rfl
 obtain ⟨h1, h2, h3⟩ := h
 obtain ⟨ad', e, hc⟩ := h3 hn
 cases e
 obtain ⟨x, hx⟩ : ∃ x, xs[0]? = some x := ⟨xs[0]'(by omega), List.getElem?_eq_getElem _⟩
 obtain ⟨c, a, b, d⟩ := hc 0 x hx
 have hb : c = [.string x] := b
 subst hb
 have h4 := d 0 _ rfl
 simp only [Nat.zero_mul, Nat.add_zero] at h4
 obtain ⟨gb, ob, sp⟩ := ad
 have h5 : w.heap[gb]? = some (.cells cs T fr) := hg
 cases sp with
 | none =>
   simp [Addr.add, World.cell?, h5] at h4
   exact hs _ _ h4
 | some z =>
   simp [Addr.add, World.cell?] at h4
   split at h4 <;> simp_all
theorem RS.other {w w' : World} {gr br : Nat} {no bytes : Int} {N : Nat} {L : List S55} (h : RS w gr br no bytes N L) {g : Nat} {a b : Int} {A : Option Addr} {n c : Nat} (hg : w.heap[g]? = some (.cells #[.int .i64 a, .int .i64 b, .slice A n c] 113 (0, 0))) (ho : Only g g w w') : RS w' gr br no bytes N L := by
 obtain ⟨clk, l, h⟩ := h
 obtain ⟨es, mc, hm, hE⟩ := h.rel.map
 have n1 : gr ≠ g := fun e => by
  subst e
  have h1 := h.rel.relay
  rw [hg] at h1
  injection h1 with h1
  injection h1 with _ h1
  exact absurd h1 (by decide)
 have n2 : br ≠ g := fun e => by
  subst e
  rw [hg] at hm
  injection hm with hm
  cases hm
 have l1 := blk_lt h.rel.relay
 have l2 := blk_lt hm
 refine ⟨clk, l, ⟨(ho.block gr l1 n1 n1).trans h.rel.relay, ⟨es, mc, (ho.block br l2 n2 n2).trans hm, hE⟩, h.rel.apart, fun x hx => ?_, h.rel.sorted, h.rel.times⟩, h.map, h.le, h.sz, h.ok, h.c0, h.cN, h.lN⟩
 have hx0 := h.rel.good x hx
 have hC := Kd.F_now hx0.row
 have hr1 := str_ne hC h.rel.relay (fun i s => by
  match i with
  | 0 | 1 | 2 | 3 | 4 => simp
  | i + 5 => simp)
 have hg1 := str_ne hC hg (fun i s => by
  match i with
  | 0 | 1 | 2 => simp
  | i + 3 => simp)
 have hF := Kd.F_bound (str_foot hC)
 have hb1 : ∀ k, (0 < x.p.f6.length ∧ ∃ ad, x.A = some ad ∧ k = ad.block) → k ≠ br := fun k hk e => by
  subst e
  obtain ⟨hn, ad, hA, hk⟩ := hk
  obtain ⟨_, _, h3⟩ := hC
  obtain ⟨ad', e1, hc⟩ := h3 hn
  rw [hA] at e1
  cases e1
  obtain ⟨y, hy⟩ : ∃ y, x.p.f6[0]? = some y := ⟨x.p.f6[0]'hn, List.getElem?_eq_getElem _⟩
  obtain ⟨cs, a1, b1, d1⟩ := hc 0 y hy
  have hb : cs = [.string y] := b1
  subst hb
  exact no_str_map (p := ad.add (0 * Kd.string.sz + 0)) (by rw [show (ad.add (0 * Kd.string.sz + 0)).block = ad.block by unfold Addr.add; split <;> rfl, ← hk]; exact hm) (d1 0 _ rfl)
 refine ⟨hx0.ok, hx0.cap, Kd.F_mono (Kd.F_step hF (fun k hk hlt => ho.block k hlt (hg1 k hk.1) (hg1 k hk.1))) (fun k hk => ⟨⟨hr1 k hk.1, hb1 k hk.1⟩, Nat.lt_of_lt_of_le hk.2 ho.size⟩)⟩
structure RefX (w : World) (g : Nat) (no bytes : Int) (Q : Nat → Prop) (X : List Kp) : Prop where
 cell : ∃ A c, w.heap[g]? = some (.cells #[.int .i64 no, .int .i64 bytes, .slice A X.length c] 113 (0, 0)) ∧ X.length ≤ c ∧ (0 < X.length → ∃ ga, A = some ⟨ga, 0, none⟩) ∧ Kd.F kPp w Q A X.length X
 good : ∀ x ∈ X, x.p.f6.length ≤ x.c ∧ Kd.F Kd.string w Q x.A x.p.f6.length x.p.f6 ∧ PK x.p
theorem RefX.below {w w1 : World} {g : Nat} {no bytes : Int} {Q : Nat → Prop} {X : List Kp} (h : RefX w g no bytes Q X) (hb : Below w.heap.size w w1) : RefX w1 g no bytes Q X := by
 obtain ⟨A, c, h1, h2, h3, h4⟩ := h.cell
 exact ⟨⟨A, c, blk_below h1 hb, h2, h3, Kd.F_below h4 hb⟩, fun x hx => ⟨(h.good x hx).1, Kd.F_below (h.good x hx).2.1 hb, (h.good x hx).2.2⟩⟩
theorem RefX.only {w w1 : World} {g gr br : Nat} {no bytes : Int} {Q : Nat → Prop} {X : List Kp} (h : RefX w g no bytes Q X) (ho : Only gr br w w1) (h1 : g ≠ gr) (h2 : g ≠ br) (hQ : ∀ k, Q k → k ≠ gr ∧ k ≠ br) : RefX w1 g no bytes Q X := by
 obtain ⟨A, c, a1, a2, a3, a4⟩ := h.cell
 have hk : ∀ k, Q k → ¬ (k = gr ∨ k = br) := fun k hk e => by
  rcases e with e | e
  · exact (hQ k hk).1 e
  · exact (hQ k hk).2 e
 exact ⟨⟨A, c, (ho.block g (blk_lt a1) h1 h2).trans a1, a2, a3, Kd.F_kept a4 ho.kept hk⟩, fun x hx => ⟨(h.good x hx).1, Kd.F_kept (h.good x hx).2.1 ho.kept hk, (h.good x hx).2.2⟩⟩
set_option maxHeartbeats 4000000 in
set_option maxRecDepth 100000 in
theorem refNew_c (no bytes : Int) (h : 0 < bytes) (w : World) :
 Calls Try.prog 28 #[.int .i64 no, .int .i64 bytes] w fun e w' => ∃ g, e = .returned (.pointer (some ⟨g, 0, none⟩)) ∧ w.heap.size ≤ g ∧ (∀ Q, RefX w' g no bytes Q []) ∧ Below w.heap.size w w' := by
 have d1 : decide (bytes < 1) = false := decide_eq_false (by omega)
 have HB := Lib.hid (below_alloc (Below.refl w.heap.size w) (.cells #[.int .i64 no, .int .i64 bytes, .slice none 0 0] 113 (0, 0)))
 clear h
 go_enter Try.func28, Try.ntmps28
 go_wp2
 go_ret
 exact ⟨_, rfl, Nat.le_refl _, fun Q => ⟨⟨none, 0, blk_new _ _, Nat.le_refl _, fun hn => absurd hn (by simp), Kd.F_nil _ _ _⟩, fun x hx => absurd hx (by simp)⟩, HB.out⟩
set_option maxHeartbeats 4000000 in
set_option maxRecDepth 100000 in
theorem refMany_c {w : World} {g : Nat} {no bytes : Int} {Q : Nat → Prop} {X : List Kp} (h : RefX w g no bytes Q X) :
 Calls Try.prog 36 #[.pointer (some ⟨g, 0, none⟩)] w fun e w' => e = .returned (.int .i64 (X.length : Int)) ∧ Below w.heap.size w w' := by
 obtain ⟨A, c, h1, _⟩ := h.cell
 have q2 : w.cell? ⟨g, 2, none⟩ = some (.slice A X.length c) := ck h1 2 _ rfl
 have HB := Lib.hid (Below.refl w.heap.size w)
 clear h h1
 go_enter Try.func36, Try.ntmps36
 go_wp2
 go_ret
 exact ⟨rfl, HB.out⟩
theorem refSize_ev (p : S55) (h : POk p) : Ev (fun k => abugidaref35_size.f k p.f0 p.f1 p.f2.f0 p.f2.f1 p.f2.f2 p.f3.f0 p.f3.f1 p.f3.f2 p.f4 p.f5 p.f6) (szP p) := by
 unfold abugidaref35_size.f
 refine Ev.bind (refEncode_ev p h) ?_
 exact Ev.now _
theorem sumP_take (T : List S55) (k : Nat) (t : S55) (h : T[k]? = some t) : sumP (T.take (k + 1)) = sumP (T.take k) + szP t := by
 rw [List.take_add_one, h]
 simp [sumP]
theorem sumP_bound (T : List S55) (h : ∀ p ∈ T, POk p) : ∀ (k : Nat), 0 ≤ sumP (T.take k) ∧ sumP (T.take k) ≤ 9000 * k
 | 0 => by simp [sumP]
 | k + 1 => by
   have ih := sumP_bound T h k
   by_cases c : k < T.length
   · obtain ⟨t, ht⟩ : ∃ t, T[k]? = some t := ⟨T[k], List.getElem?_eq_getElem c⟩
     have h1 := (h t (List.mem_of_getElem? ht)).enc
     rw [sumP_take T k t ht]
     unfold szP
     omega
   · rw [List.take_of_length_le (by omega)] at ih ⊢
     omega
theorem rd55 {l : List S55} {i : Nat} {s : S55} (h : l[i]? = some s) : rd_T55 l (i : Int) = s := by
 unfold rd_T55
 rw [List.getD_eq_getElem?_getD, Int.toNat_natCast, h]
 rfl
theorem refSum_loop (l : List S55) (hl : l.length ≤ 1000) (h : ∀ p ∈ l, POk p) : ∀ (d i : Nat), l.length - i = d → i ≤ l.length → Ev (fun k => abugidaref35_sum.l0 k l (sumP (l.take i)) (i : Int)) (sumP l)
 | 0, i, hd, hi => by
   rw [List.take_of_length_le (by omega)]
   refine Ev.step (fun k => abugidaref35_sum.l0.eq_2 ..) ?_
   refine evN (by omega) ?_
   exact Ev.now _
 | d + 1, i, hd, hi => by
   obtain ⟨x, hx⟩ := get_some (l := l) (i := i) (by omega)
   have x0 := h x (List.mem_of_getElem? hx)
   have ih := refSum_loop l hl h d (i + 1) (by omega) (by omega)
   have hb := sumP_bound l h (i + 1)
   have hs := sumP_take l i x hx
   have e1 : wrap64 (sumP (l.take i) + szP x) = sumP (l.take (i + 1)) := by rw [rl64 (by omega) (by omega)]; omega
   refine Ev.step (fun k => abugidaref35_sum.l0.eq_2 ..) ?_
   refine evI (by clear e1; omega) ?_
   refine evI (by clear e1; omega) ?_
   rw [rd55 hx]
   refine Ev.bind (refSize_ev x x0) ?_
   rw [e1, show wrap64 ((i : Int) + 1) = ((i + 1 : Nat) : Int) from w64 (by clear e1; omega) (by clear e1; omega)]
   exact ih
theorem refSum_ev (l : List S55) (hl : l.length ≤ 1000) (h : ∀ p ∈ l, POk p) : Ev (fun k => abugidaref35_sum.f k l) (sumP l) := refSum_loop l hl h l.length 0 (by omega) (by omega)
end Go.Proofs.Ythokkeljfdfppaa.Rl

