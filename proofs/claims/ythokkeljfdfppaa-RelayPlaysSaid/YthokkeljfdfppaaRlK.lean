/- patch.Decode and the reference's, for any string. -/
import Derived.Test.YthokkeljfdfppaaRlJ
import Derived.Test.YthokkeljfdfppaaPby2
set_option linter.unusedVariables false
set_option linter.unusedSimpArgs false
namespace Go.Proofs.Ythokkeljfdfppaa.Rl
open Go.RowKit Go.Proofs.YthokkeljfdfppaaW.PrintWords Go.Proofs.YthokkeljfdfppaaW.PrintLast Go.Proofs.YthokkeljfdfppaaW.PrintMore Go.Proofs.Ythokkeljfdfppaa.Pb Go.Proofs.Ythokkeljfdfppaa.Gw
theorem zay3 {p : Prop} (h : p := by simp [abugidaref02_Reader_Left.f, abugidaref02_Reader_Bad.f]) : p := h
theorem zay2 {p : Prop} (h : p := by rintro w' ⟨s0, s1, s2, s3, s4, s5⟩; go_simp; with_reducible rfl) : p := h
theorem zay1 {p : Prop} (h : p := by intro w'; go_simp; with_reducible rfl) : p := h
theorem zay0 {p : Prop} (h : p := by simp only [Act.put, nS]; rfl) : p := h
def wrC : Array Value → Nat → List Value → Array Value
 | cs, _, [] => cs
 | cs, o, v :: vs => wrC (cs.setIfInBounds o v) (o + 1) vs
theorem setCells_blk {b : Nat} {T : TypeId} : ∀ (vs : List Value) (o : Nat) (w : World) (cs : Array Value), w.heap[b]? = some (.cells cs T (0, 0)) → (w.setCells b o vs).heap[b]? = some (.cells (wrC cs o vs) T (0, 0))
 | [], _, _, _, h => h
 | v :: vs, o, w, cs, h => setCells_blk vs (o + 1) _ _ (by
   have : (w.setCell ⟨b, o, none⟩ v).heap[b]? = (w.heap[b]?).map (fun | .cells c e f => .cells (c.setIfInBounds o v) e f | o => o) := by
    simp [World.setCell, Array.getElem?_modify]
    rfl
   rw [this, h]
   rfl)
theorem setCells_other {b k : Nat} (hk : k ≠ b) : ∀ (vs : List Value) (o : Nat) (w : World), (w.setCells b o vs).heap[k]? = w.heap[k]?
 | [], _, _ => rfl
 | v :: vs, o, w => (setCells_other hk vs (o + 1) _).trans (Below.heap_setCell w ⟨b, o, none⟩ v k hk)
theorem wrC_size : ∀ (vs : List Value) (o : Nat) (cs : Array Value), (wrC cs o vs).size = cs.size
 | [], _, _ => rfl
 | v :: vs, o, cs => (wrC_size vs (o + 1) _).trans (by simp)
theorem wrC_get : ∀ (vs : List Value) (o : Nat) (cs : Array Value) (j : Nat), j < cs.size → (wrC cs o vs)[j]? = if o ≤ j ∧ j < o + vs.length then vs[j - o]? else cs[j]?
 | [], o, cs, j, _ => by rw [wrC, if_neg (by simp)]
 | v :: vs, o, cs, j, hj => by
   rw [wrC, wrC_get vs (o + 1) _ j (by simpa using hj)]
   by_cases h1 : o + 1 ≤ j ∧ j < o + 1 + vs.length
   · rw [if_pos h1, if_pos (by simp only [List.length_cons]; omega), show j - o = (j - (o + 1)) + 1 from by omega, List.getElem?_cons_succ]
   · rw [if_neg h1]
     by_cases h2 : j = o
     · subst h2
       rw [if_pos (by simp only [List.length_cons]; omega)]
       simp [hj]
     · rw [if_neg (by simp only [List.length_cons]; omega), Array.getElem?_setIfInBounds_ne (Ne.symm h2)]
theorem setCells_full {b : Nat} {T : TypeId} {w : World} {cs : Array Value} (A : Array Value) (h : w.heap[b]? = some (.cells cs T (0, 0))) (hs : cs.size = A.size) : (w.setCells b 0 A.toList).heap[b]? = some (.cells A T (0, 0)) := by
 rw [setCells_blk A.toList 0 w cs h]
 congr 2
 apply Array.ext_getElem?
 intro j
 by_cases hj : j < cs.size
 · rw [wrC_get _ _ _ _ hj, if_pos (by simp; omega)]
   simp
 · rw [Array.getElem?_eq_none (by rw [wrC_size]; omega), Array.getElem?_eq_none (by omega)]
theorem bk {w w' : World} {a g : Nat} {o : Obj} (h : w.heap[a]? = some o) (hk : KeepBut w w' g none) (hne : a ≠ g) : w'.heap[a]? = some o := (hk.2 a (blk_lt h) hne (by simp)).trans h
theorem ne_typed {w : World} {a g : Nat} {cs cs' : Array Value} {T T' : TypeId} {f f' : Nat × Nat} (h : w.heap[a]? = some (.cells cs T f)) (h' : w.heap[g]? = some (.cells cs' T' f')) (hne : T ≠ T') : a ≠ g := by
 rintro rfl
 rw [h] at h'
 injection h' with h'
 injection h' with _ h'
 exact hne h'
theorem one11 {a0 : ByteArray} {a1 a2 a3 a4 a5 a6 a7 : Int} {a8 : ByteArray} {a9 : Int} {A : Option Addr} {n c : Nat} : (#[Value.string a0, .int .i64 a1, .int .i64 a2, .int .i64 a3, .int .i64 a4, .int .i64 a5, .int .i64 a6, .int .i64 a7, .string a8, .int .i64 a9, .slice A n c] : Array Value).all (·.oneCell') = true := by simp [Value.oneCell']
theorem inf11 {cs : Array Value} (h : cs.size = 11) : (Try.prog.info? 55).map (·.size) = some cs.size := by rw [h]; kernel_rfl
abbrev ZP : Array Value := #[.string ⟨#[]⟩, .int .i64 0, .int .i64 0, .int .i64 0, .int .i64 0, .int .i64 0, .int .i64 0, .int .i64 0, .string ⟨#[]⟩, .int .i64 0, .slice none 0 0]
theorem R_some {α : Type} {d : Kd α} {e base n c : Nat} {W : World} {ok : Nat → Prop} {A : Option Addr} {l : List α} (h : d.R e W base ok (.slice A n c) l) (hl : 0 < l.length) : ∃ g, A = some ⟨g, 0, none⟩ := by
 have hn := (Kd.R_reads' h).1
 obtain ⟨inner, h1, h2⟩ := Kd.R_own h
 rcases h2 with ⟨h3, h4⟩ | ⟨g, cap, cur, h3, _⟩
 · injection h3 with _ h3 _; omega
 · injection h3 with h3 _ _; exact ⟨g, h3⟩
theorem cell_sc {w : World} {a b o j : Nat} {v : Value} {vs : List Value} (h : w.cell? ⟨a, j, none⟩ = some v) (hne : a ≠ b) : (w.setCells b o vs).cell? ⟨a, j, none⟩ = some v := by
 rw [← h]
 unfold World.cell?
 rw [setCells_other hne]
theorem rangeAt_blk {w : World} {D : Nat} {cs : Array Value} {T : TypeId} (h : w.heap[D]? = some (.cells cs T (0, 0))) : w.rangeAt D 0 cs.toList := fun j v hv => by
 rw [Nat.zero_add]
 exact ck h j v (by simpa using hv)
theorem there_off {w : World} {b o n : Nat} {cs : Array Value} {T : TypeId} (h : w.heap[b]? = some (.cells cs T (0, 0))) (hn : o + n ≤ cs.size) : w.there b o n := fun j hj => by
 have hv : cs[o + j]? = some cs[o + j] := Array.getElem?_eq_getElem (by omega)
 rw [ck h (o + j) _ hv]
 exact ⟨rfl, fz h (o + j)⟩
theorem inf3 {cs : Array Value} (h : cs.size = 3) : (Try.prog.info? 52).map (·.size) = some cs.size := by rw [h]; kernel_rfl
theorem one3 {a b c : Int} : (#[Value.int .i64 a, .int .i64 b, .int .i64 c] : Array Value).all (·.oneCell') = true := by simp [Value.oneCell']
theorem len6 {ks : List Int} (h : ks.length = 6) : ∃ k0 k1 k2 k3 k4 k5, ks = [k0, k1, k2, k3, k4, k5] := by
 match ks, h with
 | [k0, k1, k2, k3, k4, k5], _ => exact ⟨k0, k1, k2, k3, k4, k5, rfl⟩
def decF (t : ByteArray) (v : Int) (ks : List Int) (bd : ByteArray) (ix : Int) (pr : List ByteArray) (left : Int) (bad : Bool) : S55 × Int :=
 if bad = true ∨ 0 < left ∨ ks.length ≠ 6 then (z55, 4) else (⟨t, v, ⟨rd ks 0, rd ks 1, rd ks 2⟩, ⟨rd ks 3, rd ks 4, rd ks 5⟩, bd, ix, pr⟩, 0)
def flatP (x : S55 × Int) : ByteArray × Int × Int × Int × Int × Int × Int × Int × ByteArray × Int × List ByteArray × Int := (x.1.f0, x.1.f1, x.1.f2.f0, x.1.f2.f1, x.1.f2.f2, x.1.f3.f0, x.1.f3.f1, x.1.f3.f2, x.1.f4, x.1.f5, x.1.f6, x.2)
def DecAns (w : World) (x : S55 × Int) (e : Ending) (w' : World) : Prop := ∃ v10, e = .returned (.tuple #[.agg #[.string x.1.f0, .int .i64 x.1.f1, .int .i64 x.1.f2.f0, .int .i64 x.1.f2.f1, .int .i64 x.1.f2.f2, .int .i64 x.1.f3.f0, .int .i64 x.1.f3.f1, .int .i64 x.1.f3.f2, .string x.1.f4, .int .i64 x.1.f5, v10], .int .i64 x.2]) ∧ Kd.R Kd.string 9 w' w.heap.size (fun _ => True) v10 x.1.f6 ∧ Below w.heap.size w w'
def patch_Decode.r (k : Nat) (s : ByteArray) : Option (S55 × Int) := if 131072 < s.size then some (z55, 2) else (wire_New.f s).bind fun n => (wire_Reader_Text.f k n.1 n.2).bind fun y0 => (wire_Reader_Int.f k y0.2.1 y0.2.2).bind fun y1 => (wire_Reader_Ints.f k y1.2.1 y1.2.2).bind fun y2 => (wire_Reader_Text.f k y2.2.1 y2.2.2).bind fun y3 => (wire_Reader_Int.f k y3.2.1 y3.2.2).bind fun y4 => (wire_Reader_Texts.f k y4.2.1 y4.2.2).bind fun y5 => some (decF y0.1 y1.1 y2.1 y3.1 y4.1 y5.1 (y5.2.1.size : Int) y5.2.2)
set_option maxHeartbeats 8000000 in
set_option maxRecDepth 100000 in
theorem patch_Decode_big (s : ByteArray) (hs : 131072 < s.size) (w : World) : Calls Try.prog 62 #[.string s] w (DecAns w (z55, 2)) := by
 have d0 : decide (131072 < (s.size : Int)) = true := decide_eq_true (by omega)
 have d0' : (131072 < s.size) = True := eq_true hs
 have HZ := Lib.hid (blk_new w (.cells ZP 55 (0, 0)))
 have HB := Lib.hid (below_alloc (Below.refl w.heap.size w) (.cells ZP 55 (0, 0)))
 clear hs
 show Calls _ _ _ _ _
 go_enter Try.func62, Try.ntmps62
 go_wp2_with (refine wpList_store_mid rfl 55 (.tmp 2) (.tmp 10) rfl w.heap.size 0 ZP rfl rfl (there_blk HZ.out rfl) (inf11 rfl) one11 ?_)
 have HF := Lib.hid (setCells_full ZP HZ.out rfl)
 refine bodyPost_ret (results_ct rfl _ _ w.heap.size 55 ZP (0, 0) _ rfl HF.out Try.underlying55 rfl (inf11 rfl)) rfl ?_
 exact ⟨_, rfl, Kd.R_nil _ _ _ _ _, below_cells (Nat.le_refl _) _ _ _ HB.out⟩
set_option maxHeartbeats 8000000 in
set_option maxRecDepth 100000 in
theorem patch_Decode_any (k : Nat) (s t : ByteArray) (v : Int) (ks : List Int) (bd : ByteArray) (ix : Int) (pr : List ByteArray) (q1 q2 q3 q4 q5 q6 : ByteArray) (b1 b2 b3 b4 b5 b6 : Bool) (h1 : wire_Reader_Text.f k s false = some (t, q1, b1)) (h2 : wire_Reader_Int.f k q1 b1 = some (v, q2, b2)) (h3 : wire_Reader_Ints.f k q2 b2 = some (ks, q3, b3)) (h4 : wire_Reader_Text.f k q3 b3 = some (bd, q4, b4)) (h5 : wire_Reader_Int.f k q4 b4 = some (ix, q5, b5)) (h6 : wire_Reader_Texts.f k q5 b5 = some (pr, q6, b6)) (hs : s.size ≤ 131072) (w : World) : Calls Try.prog 62 #[.string s] w (DecAns w (decF t v ks bd ix pr (q6.size : Int) b6)) := by
 have d0 : decide (131072 < (s.size : Int)) = false := decide_eq_false (by omega)
 have d0' : (131072 < s.size) = False := eq_false (by omega)
 have H1 := Lib.hid h1
 have H2 := Lib.hid h2
 have H3 := Lib.hid h3
 have H4 := Lib.hid h4
 have H5 := Lib.hid h5
 have H6 := Lib.hid h6
 have HZ0 := Lib.hid (blk_new w (.cells ZP 55 (0, 0)))
 have HB0 := Lib.hid (below_alloc (Below.refl w.heap.size w) (.cells ZP 55 (0, 0)))
 clear hs h1 h2 h3 h4 h5 h6
 go_enter Try.func62, Try.ntmps62
 go_upto_region 5 with (first
  | ((go_at_call 55); (with_reducible refine (wire_New.calls s s false w _ HB0.out rfl).mono ?_); rintro e W1 ⟨g, rfl, hi, hb, hbx⟩; have HI := Lib.hid hi; have HB := Lib.hid hb; have HZ := Lib.hid (blk_below HZ0.out hbx); have HNE := Lib.hid (ne_typed HZ.out hi.1 (by decide)); clear hi hb hbx)
  | ((go_at_call 56); (with_reducible refine (wire_Reader_Text.calls k g s false t q1 b1 w _ HI.out HB.out H1.out).mono ?_); rintro e W2 ⟨rfl, hi, hb, hk⟩; have n_ := Lib.hid (bk HZ.out hk HNE.out); clear HZ; have HZ := n_; clear n_; clear HI; have HI := Lib.hid hi; clear HB; have HB := Lib.hid hb; clear hi hb hk)
  | ((go_at_call 57); (with_reducible refine (wire_Reader_Int.calls k g q1 b1 v q2 b2 w _ HI.out HB.out H2.out).mono ?_); rintro e W3 ⟨rfl, hi, hb, hk⟩; have n_ := Lib.hid (bk HZ.out hk HNE.out); clear HZ; have HZ := n_; clear n_; clear HI; have HI := Lib.hid hi; clear HB; have HB := Lib.hid hb; clear hi hb hk)
  | (refine wpList_store_mid rfl 55 (.tmp 5) (.tmp 17) rfl _ 0 #[.string t, .int .i64 v, .int .i64 0, .int .i64 0, .int .i64 0, .int .i64 0, .int .i64 0, .int .i64 0, .string ⟨#[]⟩, .int .i64 0, .slice none 0 0] rfl rfl (there_blk (blk_new _ _) rfl) (inf11 rfl) one11 ?_))
 obtain ⟨G, hG⟩ : ∃ G, G = W3.heap.size := ⟨_, rfl⟩
 have HFn := Lib.hid (setCells_full #[.string t, .int .i64 v, .int .i64 0, .int .i64 0, .int .i64 0, .int .i64 0, .int .i64 0, .int .i64 0, .string ⟨#[]⟩, .int .i64 0, .slice none 0 0] (blk_new W3 (.cells ZP 55 (0, 0))) rfl)
 have HZn := Lib.hid ((setCells_other (Nat.ne_of_lt (blk_lt HZ.out)) (#[.string t, .int .i64 v, .int .i64 0, .int .i64 0, .int .i64 0, .int .i64 0, .int .i64 0, .int .i64 0, .string ⟨#[]⟩, .int .i64 0, .slice none 0 0] : Array Value).toList 0 (W3.alloc (.cells ZP 55 (0, 0)))).trans (blk_alloc HZ.out _))
 have HBn := Lib.hid (below_cells HB.out.size (#[.string t, .int .i64 v, .int .i64 0, .int .i64 0, .int .i64 0, .int .i64 0, .int .i64 0, .int .i64 0, .string ⟨#[]⟩, .int .i64 0, .slice none 0 0] : Array Value).toList 0 _ (below_alloc HB.out (.cells ZP 55 (0, 0))))
 have HIn := Lib.hid (show IsS161 w ((W3.alloc (.cells ZP 55 (0, 0))).setCells W3.heap.size 0 (#[.string t, .int .i64 v, .int .i64 0, .int .i64 0, .int .i64 0, .int .i64 0, .int .i64 0, .int .i64 0, .string ⟨#[]⟩, .int .i64 0, .slice none 0 0] : Array Value).toList) g q2 b2 from ⟨(setCells_other (Nat.ne_of_lt (blk_lt HI.out.1)) _ _ _).trans (blk_alloc HI.out.1 _), HI.out.2⟩)
 have HNF := Lib.hid (show G ≠ g from hG ▸ (Nat.ne_of_gt (blk_lt HI.out.1)))
 have HGW := Lib.hid (show w.heap.size < G from hG ▸ (blk_lt HZ.out))
 rw [← hG] at HFn HZn HBn HIn
 simp only [← hG]
 clear HZ HB HI HZ0 HB0 hG
 generalize (W3.alloc (.cells ZP 55 (0, 0))).setCells G 0 (#[.string t, .int .i64 v, .int .i64 0, .int .i64 0, .int .i64 0, .int .i64 0, .int .i64 0, .int .i64 0, .string ⟨#[]⟩, .int .i64 0, .slice none 0 0] : Array Value).toList = WG at HFn HZn HBn HIn ⊢
 have HZ := HZn
 have HF := HFn
 have HB := HBn
 have HI := HIn
 clear HZn HFn HBn HIn
 simp only [Act.put]
 go_upto_region 7 with (first
  | ((go_at_call 97); (with_reducible refine (wire_Reader_Ints.calls k g q2 b2 ks q3 b3 w _ HI.out HB.out H3.out).mono ?_); rintro e W4 ⟨vrC, rfl, hr, hi, hb, hk⟩; have HC0 := Lib.hid (Kd.R_lower (Kd.R_mono (ok' := fun k => G < k) (Kd.R_bound hr) (fun k hk => Nat.lt_of_lt_of_le (blk_lt HF.out) hk.2.1)) HB.out.size); clear hr; have n_ := Lib.hid (bk HZ.out hk HNE.out); clear HZ; have HZ := n_; clear n_; have n_ := Lib.hid (bk HF.out hk HNF.out); clear HF; have HF := n_; clear n_; clear HI; have HI := Lib.hid hi; clear HB; have HB := Lib.hid hb; clear hi hb hk; obtain ⟨AC, cC, rfl⟩ := Kd.R_slice HC0.out; have HC := HC0; clear HC0)
  | ((go_at_call 56); (with_reducible refine (wire_Reader_Text.calls k g q3 b3 bd q4 b4 w _ HI.out HB.out H4.out).mono ?_); rintro e W5 ⟨rfl, hi, hb, hk⟩; have n_ := Lib.hid (bk HZ.out hk HNE.out); clear HZ; have HZ := n_; clear n_; have n_ := Lib.hid (bk HF.out hk HNF.out); clear HF; have HF := n_; clear n_; have n_ := Lib.hid (Kd.R_mono (Kd.R_keep (HI.out.apart HC.out (by decide)) hk (fun _ h => h.2)) (fun _ h => h.1)); clear HC; have HC := n_; clear n_; clear HI; have HI := Lib.hid hi; clear HB; have HB := Lib.hid hb; clear hi hb hk)
  | ((go_at_call 57); (with_reducible refine (wire_Reader_Int.calls k g q4 b4 ix q5 b5 w _ HI.out HB.out H5.out).mono ?_); rintro e W6 ⟨rfl, hi, hb, hk⟩; have n_ := Lib.hid (bk HZ.out hk HNE.out); clear HZ; have HZ := n_; clear n_; have n_ := Lib.hid (bk HF.out hk HNF.out); clear HF; have HF := n_; clear n_; have n_ := Lib.hid (Kd.R_mono (Kd.R_keep (HI.out.apart HC.out (by decide)) hk (fun _ h => h.2)) (fun _ h => h.1)); clear HC; have HC := n_; clear n_; clear HI; have HI := Lib.hid hi; clear HB; have HB := Lib.hid hb; clear hi hb hk)
  | ((go_at_call 61); (with_reducible refine (wire_Reader_Texts.calls k g q5 b5 pr q6 b6 w _ HI.out HB.out H6.out).mono ?_); rintro e W7 ⟨vrT, rfl, hr, hi, hb, hk⟩; have HT0 := Lib.hid (Kd.R_lower (Kd.R_mono (ok' := fun k => G < k) (Kd.R_bound hr) (fun k hk => Nat.lt_of_lt_of_le (blk_lt HF.out) hk.2.1)) HB.out.size); clear hr; have n_ := Lib.hid (bk HZ.out hk HNE.out); clear HZ; have HZ := n_; clear n_; have n_ := Lib.hid (bk HF.out hk HNF.out); clear HF; have HF := n_; clear n_; have n_ := Lib.hid (Kd.R_mono (Kd.R_keep (HI.out.apart HC.out (by decide)) hk (fun _ h => h.2)) (fun _ h => h.1)); clear HC; have HC := n_; clear n_; clear HI; have HI := Lib.hid hi; clear HB; have HB := Lib.hid hb; clear hi hb hk; obtain ⟨AT, cT, rfl⟩ := Kd.R_slice HT0.out; have HT := HT0; clear HT0; have p1 := ck HF.out 1 _ rfl; have p8 := ck HF.out 8 _ rfl; have p9 := ck HF.out 9 _ rfl; have p10 := ck HF.out 10 _ rfl; have f1 := fz HF.out 1; have f8 := fz HF.out 8; have f9 := fz HF.out 9; have f10 := fz HF.out 10))
 have HFn := Lib.hid (cell_set (cs' := #[.string t, .int .i64 v, .int .i64 0, .int .i64 0, .int .i64 0, .int .i64 0, .int .i64 0, .int .i64 0, .string bd, .int .i64 ix, .slice AT pr.length cT]) (cell_set (cs' := #[.string t, .int .i64 v, .int .i64 0, .int .i64 0, .int .i64 0, .int .i64 0, .int .i64 0, .int .i64 0, .string bd, .int .i64 ix, .slice none 0 0]) (cell_set (cs' := #[.string t, .int .i64 v, .int .i64 0, .int .i64 0, .int .i64 0, .int .i64 0, .int .i64 0, .int .i64 0, .string bd, .int .i64 0, .slice none 0 0]) HF.out 8 (by simp) (.string bd) rfl) 9 (by simp) (.int .i64 ix) rfl) 10 (by simp) (.slice AT pr.length cT) rfl)
 have HZn := Lib.hid (show (((W7.setCell ⟨G, 8, none⟩ (.string bd)).setCell ⟨G, 9, none⟩ (.int .i64 ix)).setCell ⟨G, 10, none⟩ (.slice AT pr.length cT)).heap[w.heap.size]? = some (.cells ZP 55 (0, 0)) from ((Below.heap_setCell _ ⟨G, 10, none⟩ (.slice AT pr.length cT) w.heap.size (Nat.ne_of_lt HGW.out)) |>.trans (Below.heap_setCell _ ⟨G, 9, none⟩ (.int .i64 ix) w.heap.size (Nat.ne_of_lt HGW.out)) |>.trans (Below.heap_setCell _ ⟨G, 8, none⟩ (.string bd) w.heap.size (Nat.ne_of_lt HGW.out)) |>.trans HZ.out))
 have HBn := Lib.hid (show Below w.heap.size w (((W7.setCell ⟨G, 8, none⟩ (.string bd)).setCell ⟨G, 9, none⟩ (.int .i64 ix)).setCell ⟨G, 10, none⟩ (.slice AT pr.length cT)) from (((HB.out.setCell (p := ⟨G, 8, none⟩) (Nat.le_of_lt HGW.out) (.string bd)).setCell (p := ⟨G, 9, none⟩) (Nat.le_of_lt HGW.out) (.int .i64 ix)).setCell (p := ⟨G, 10, none⟩) (Nat.le_of_lt HGW.out) (.slice AT pr.length cT)))
 have HIn := Lib.hid (show IsS161 w (((W7.setCell ⟨G, 8, none⟩ (.string bd)).setCell ⟨G, 9, none⟩ (.int .i64 ix)).setCell ⟨G, 10, none⟩ (.slice AT pr.length cT)) g q6 b6 from (IsS161.far (p := ⟨G, 10, none⟩) (IsS161.far (p := ⟨G, 9, none⟩) (IsS161.far (p := ⟨G, 8, none⟩) HI.out HNF.out.symm (.string bd)) HNF.out.symm (.int .i64 ix)) HNF.out.symm (.slice AT pr.length cT)))
 have HCn := Lib.hid (Kd.R_far (p := ⟨G, 10, none⟩) (Kd.R_far (p := ⟨G, 9, none⟩) (Kd.R_far (p := ⟨G, 8, none⟩) HC.out (fun k hk e => Nat.ne_of_gt hk e) (.string bd)) (fun k hk e => Nat.ne_of_gt hk e) (.int .i64 ix)) (fun k hk e => Nat.ne_of_gt hk e) (.slice AT pr.length cT))
 have HTn := Lib.hid (Kd.R_far (p := ⟨G, 10, none⟩) (Kd.R_far (p := ⟨G, 9, none⟩) (Kd.R_far (p := ⟨G, 8, none⟩) HT.out (fun k hk e => Nat.ne_of_gt hk e) (.string bd)) (fun k hk e => Nat.ne_of_gt hk e) (.int .i64 ix)) (fun k hk e => Nat.ne_of_gt hk e) (.slice AT pr.length cT))
 generalize (((W7.setCell ⟨G, 8, none⟩ (.string bd)).setCell ⟨G, 9, none⟩ (.int .i64 ix)).setCell ⟨G, 10, none⟩ (.slice AT pr.length cT)) = WK at HFn HZn HBn HIn HCn HTn ⊢
 clear HF HZ HB HI HC HT p1 p8 p9 p10 f1 f8 f9 f10
 have HF := HFn
 clear HFn
 have HZ := HZn
 clear HZn
 have HB := HBn
 clear HBn
 have HI := HIn
 clear HIn
 have HC := HCn
 clear HCn
 have HT := HTn
 clear HTn
 obtain ⟨lf, hlf⟩ : ∃ x, x = (q6.size : Int) := ⟨_, rfl⟩
 cases b6 with
 | true =>
   have HD := Lib.hid (show decF t v ks bd ix pr (q6.size : Int) true = (z55, 4) from if_pos (.inl rfl))
   go_wp2_with (first
    | ((go_at_call 58); (with_reducible refine (wire_Reader_Bad.calls g q6 true true q6 true w _ HI.out HB.out rfl).mono ?_); rintro e W8 ⟨rfl, hi, hb, hk⟩; have n_ := Lib.hid (bk HZ.out hk HNE.out); clear HZ; have HZ := n_; clear n_; have n_ := Lib.hid (bk HF.out hk HNF.out); clear HF; have HF := n_; clear n_; have n_ := Lib.hid (Kd.R_mono (Kd.R_keep (HI.out.apart HC.out (by decide)) hk (fun _ h => h.2)) (fun _ h => h.1)); clear HC; have HC := n_; clear n_; have n_ := Lib.hid (Kd.R_mono (Kd.R_keep (HI.out.apart HT.out (by decide)) hk (fun _ h => h.2)) (fun _ h => h.1)); clear HT; have HT := n_; clear n_; clear HI; have HI := Lib.hid hi; clear HB; have HB := Lib.hid hb; clear hi hb hk)
    | (refine wpList_store_mid rfl 55 (.tmp 2) (.tmp 41) rfl w.heap.size 0 ZP rfl rfl (there_blk HZ.out rfl) (inf11 rfl) one11 ?_))
   have HE := Lib.hid (setCells_full ZP HZ.out rfl)
   refine bodyPost_ret (results_ct rfl _ _ w.heap.size 55 ZP (0, 0) _ rfl HE.out Try.underlying55 rfl (inf11 rfl)) rfl ?_
   rw [HD.out]
   exact ⟨_, rfl, Kd.R_nil _ _ _ _ _, below_cells (Nat.le_refl _) _ _ _ HB.out⟩
 | false =>
   by_cases hl : 0 < (q6.size : Int)
   · have HD := Lib.hid (show decF t v ks bd ix pr (q6.size : Int) false = (z55, 4) from if_pos (.inr (.inl hl)))
     have d1 : decide (0 < (q6.size : Int)) = true := decide_eq_true hl
     have d1' : (0 < q6.size) = True := eq_true (by omega)
     clear hl
     go_wp2_with (first
      | ((go_at_call 58); (with_reducible refine (wire_Reader_Bad.calls g q6 false false q6 false w _ HI.out HB.out rfl).mono ?_); rintro e W8 ⟨rfl, hi, hb, hk⟩; have n_ := Lib.hid (bk HZ.out hk HNE.out); clear HZ; have HZ := n_; clear n_; have n_ := Lib.hid (bk HF.out hk HNF.out); clear HF; have HF := n_; clear n_; have n_ := Lib.hid (Kd.R_mono (Kd.R_keep (HI.out.apart HC.out (by decide)) hk (fun _ h => h.2)) (fun _ h => h.1)); clear HC; have HC := n_; clear n_; have n_ := Lib.hid (Kd.R_mono (Kd.R_keep (HI.out.apart HT.out (by decide)) hk (fun _ h => h.2)) (fun _ h => h.1)); clear HT; have HT := n_; clear n_; clear HI; have HI := Lib.hid hi; clear HB; have HB := Lib.hid hb; clear hi hb hk)
      | ((go_at_call 59); (with_reducible refine (wire_Reader_Left.calls g q6 false (q6.size : Int) q6 false w _ HI.out HB.out (by simp [wire_Reader_Left.f, wire_Reader_Bad.f])).mono ?_); rintro e W9 ⟨rfl, hi, hb, hk⟩; have n_ := Lib.hid (bk HZ.out hk HNE.out); clear HZ; have HZ := n_; clear n_; have n_ := Lib.hid (bk HF.out hk HNF.out); clear HF; have HF := n_; clear n_; have n_ := Lib.hid (Kd.R_mono (Kd.R_keep (HI.out.apart HC.out (by decide)) hk (fun _ h => h.2)) (fun _ h => h.1)); clear HC; have HC := n_; clear n_; have n_ := Lib.hid (Kd.R_mono (Kd.R_keep (HI.out.apart HT.out (by decide)) hk (fun _ h => h.2)) (fun _ h => h.1)); clear HT; have HT := n_; clear n_; clear HI; have HI := Lib.hid hi; clear HB; have HB := Lib.hid hb; clear hi hb hk)
      | (refine wpList_store_mid rfl 55 (.tmp 2) (.tmp 41) rfl w.heap.size 0 ZP rfl rfl (there_blk HZ.out rfl) (inf11 rfl) one11 ?_))
     have HE := Lib.hid (setCells_full ZP HZ.out rfl)
     refine bodyPost_ret (results_ct rfl _ _ w.heap.size 55 ZP (0, 0) _ rfl HE.out Try.underlying55 rfl (inf11 rfl)) rfl ?_
     rw [HD.out]
     exact ⟨_, rfl, Kd.R_nil _ _ _ _ _, below_cells (Nat.le_refl _) _ _ _ HB.out⟩
   · have d1 : decide (0 < (q6.size : Int)) = false := decide_eq_false hl
     have d1' : (0 < q6.size) = False := eq_false (by omega)
     by_cases h6 : ks.length = 6
     · obtain ⟨k0, k1, k2, k3, k4, k5, rfl⟩ := len6 h6
       have HD := Lib.hid (show decF t v [k0, k1, k2, k3, k4, k5] bd ix pr (q6.size : Int) false = (⟨t, v, ⟨k0, k1, k2⟩, ⟨k3, k4, k5⟩, bd, ix, pr⟩, 0) from if_neg (fun h => by rcases h with h | h | h; cases h; exact hl h; exact h rfl))
       clear hl h6
       go_upto_region 9 with (first
        | ((go_at_call 58); (with_reducible refine (wire_Reader_Bad.calls g q6 false false q6 false w _ HI.out HB.out rfl).mono ?_); rintro e W8 ⟨rfl, hi, hb, hk⟩; have n_ := Lib.hid (bk HZ.out hk HNE.out); clear HZ; have HZ := n_; clear n_; have n_ := Lib.hid (bk HF.out hk HNF.out); clear HF; have HF := n_; clear n_; have n_ := Lib.hid (Kd.R_mono (Kd.R_keep (HI.out.apart HC.out (by decide)) hk (fun _ h => h.2)) (fun _ h => h.1)); clear HC; have HC := n_; clear n_; have n_ := Lib.hid (Kd.R_mono (Kd.R_keep (HI.out.apart HT.out (by decide)) hk (fun _ h => h.2)) (fun _ h => h.1)); clear HT; have HT := n_; clear n_; clear HI; have HI := Lib.hid hi; clear HB; have HB := Lib.hid hb; clear hi hb hk)
        | ((go_at_call 59); (with_reducible refine (wire_Reader_Left.calls g q6 false (q6.size : Int) q6 false w _ HI.out HB.out (by simp [wire_Reader_Left.f, wire_Reader_Bad.f])).mono ?_); rintro e W9 ⟨rfl, hi, hb, hk⟩; have n_ := Lib.hid (bk HZ.out hk HNE.out); clear HZ; have HZ := n_; clear n_; have n_ := Lib.hid (bk HF.out hk HNF.out); clear HF; have HF := n_; clear n_; have n_ := Lib.hid (Kd.R_mono (Kd.R_keep (HI.out.apart HC.out (by decide)) hk (fun _ h => h.2)) (fun _ h => h.1)); clear HC; have HC := n_; clear n_; have n_ := Lib.hid (Kd.R_mono (Kd.R_keep (HI.out.apart HT.out (by decide)) hk (fun _ h => h.2)) (fun _ h => h.1)); clear HT; have HT := n_; clear n_; clear HI; have HI := Lib.hid hi; clear HB; have HB := Lib.hid hb; clear hi hb hk))
       obtain ⟨gc, rfl⟩ := R_some HC.out (by simp)
       have HGC := Lib.hid (show gc ≠ G from Nat.ne_of_gt (HC.out.1 gc (by simp [Value.ownBlock])))
       have c0 : W9.drew.cell? ⟨gc, 0, none⟩ = some (.int .i64 k0) := (Kd.R_cell 0 HC.out 0 (by omega) (by simp)).1
       have c1 : W9.drew.cell? ⟨gc, 1, none⟩ = some (.int .i64 k1) := (Kd.R_cell 0 HC.out 1 (by omega) (by simp)).1
       have c2 : W9.drew.cell? ⟨gc, 2, none⟩ = some (.int .i64 k2) := (Kd.R_cell 0 HC.out 2 (by omega) (by simp)).1
       have c3 : W9.drew.cell? ⟨gc, 3, none⟩ = some (.int .i64 k3) := (Kd.R_cell 0 HC.out 3 (by omega) (by simp)).1
       have c4 : W9.drew.cell? ⟨gc, 4, none⟩ = some (.int .i64 k4) := (Kd.R_cell 0 HC.out 4 (by omega) (by simp)).1
       have c5 : W9.drew.cell? ⟨gc, 5, none⟩ = some (.int .i64 k5) := (Kd.R_cell 0 HC.out 5 (by omega) (by simp)).1
       have HFd := Lib.hid (show W9.drew.heap[G]? = _ from HF.out)
       have HZd := Lib.hid (show W9.drew.heap[w.heap.size]? = _ from HZ.out)
       have HBd := Lib.hid HB.out.drew
       have HTd := Lib.hid (Kd.R_drew HT.out)
       clear HF HZ HB HI HC HT
       have HF := HFd
       have HZ := HZd
       have HB := HBd
       have HT := HTd
       clear HFd HZd HBd HTd
       refine start_ (n := 24) (S := fun w' => w'.cell? ⟨gc, 0, none⟩ = some (.int .i64 k0) ∧ w'.cell? ⟨gc, 1, none⟩ = some (.int .i64 k1) ∧ w'.cell? ⟨gc, 2, none⟩ = some (.int .i64 k2) ∧ w'.cell? ⟨gc, 3, none⟩ = some (.int .i64 k3) ∧ w'.cell? ⟨gc, 4, none⟩ = some (.int .i64 k4) ∧ w'.cell? ⟨gc, 5, none⟩ = some (.int .i64 k5)) (ds := [23]) #[false, false, false, false, false, false, false, false, false, false, false, false, false, false, false, false, false, false, false, false, false, false, false, false] (by kernel_rfl) rfl rfl ⟨c0, c1, c2, c3, c4, c5⟩ (fun hHeld => ?_)
       generalize W9.drew = wd at HF HZ HB HT c0 c1 c2 c3 c4 c5 hHeld ⊢
       refine pA 0 (some 42) rfl rfl zay1 zay0 ?_
       refine pA 1 (some 43) rfl rfl zay1 zay0 ?_
       refine pA 3 (some 45) rfl rfl zay1 zay0 ?_
       refine pA 4 (some 46) rfl rfl zay1 zay0 ?_
       refine pA 6 (some 48) rfl rfl zay1 zay0 ?_
       refine pA 7 (some 49) rfl rfl zay1 zay0 ?_
       refine pA 10 (some 52) rfl rfl zay1 zay0 ?_
       refine pA 11 (some 53) rfl rfl zay1 zay0 ?_
       refine pA 13 (some 55) rfl rfl zay1 zay0 ?_
       refine pA 14 (some 56) rfl rfl zay1 zay0 ?_
       refine pA 16 (some 58) rfl rfl zay1 zay0 ?_
       refine pA 17 (some 59) rfl rfl zay1 zay0 ?_
       refine tA 2 (some 44) rfl rfl zay2 hHeld zay0 ?_
       refine tA 5 (some 47) rfl rfl zay2 hHeld zay0 ?_
       refine tA 8 (some 50) rfl rfl zay2 hHeld zay0 ?_
       refine pA 9 (some 51) rfl rfl zay1 zay0 ?_
       refine pA 20 (some 62) rfl rfl zay1 zay0 ?_
       refine tA 12 (some 54) rfl rfl zay2 hHeld zay0 ?_
       refine tA 15 (some 57) rfl rfl zay2 hHeld zay0 ?_
       refine tA 18 (some 60) rfl rfl zay2 hHeld zay0 ?_
       refine pA 19 (some 61) rfl rfl zay1 zay0 ?_
       refine oA 21 none rfl rfl (fun K hK => ?_)
       refine store_ (by rfl) rfl 52 (.tmp 62) (.tmp 51) rfl G 2 #[.int .i64 k0, .int .i64 k1, .int .i64 k2] rfl rfl (there_off HF.out (by simp)) (inf3 rfl) one3 ?_
       refine hK.out _ _ ⟨cell_sc hHeld.1 HGC.out, cell_sc hHeld.2.1 HGC.out, cell_sc hHeld.2.2.1 HGC.out, cell_sc hHeld.2.2.2.1 HGC.out, cell_sc hHeld.2.2.2.2.1 HGC.out, cell_sc hHeld.2.2.2.2.2 HGC.out⟩ (fun hHeld => ?_)
       clear hK K
       refine pA 22 (some 63) rfl rfl zay1 zay0 ?_
       refine last_ (i := 23) (N := none) #[true, true, true, true, true, true, true, true, true, true, true, true, true, true, true, true, true, true, true, true, true, true, true, true] rfl rfl (by kernel_rfl) (by decide) (fun K hK => ?_)
       refine store_ (by rfl) rfl 52 (.tmp 63) (.tmp 61) rfl G 5 #[.int .i64 k3, .int .i64 k4, .int .i64 k5] rfl rfl (World.there_setCells (there_off HF.out (by simp)) _ _ _) (inf3 rfl) one3 ?_
       refine hK.out _ _ ?_
       clear hK K
       refine done_ (by kernel_rfl) ?_
       have HFn := Lib.hid (show ((wd.setCells G 2 [.int .i64 k0, .int .i64 k1, .int .i64 k2]).setCells G 5 [.int .i64 k3, .int .i64 k4, .int .i64 k5]).heap[G]? = some (.cells #[.string t, .int .i64 v, .int .i64 k0, .int .i64 k1, .int .i64 k2, .int .i64 k3, .int .i64 k4, .int .i64 k5, .string bd, .int .i64 ix, .slice AT pr.length cT] 55 (0, 0)) from setCells_blk _ 5 _ _ (setCells_blk _ 2 _ _ HF.out))
       have HZn := Lib.hid (show ((wd.setCells G 2 [.int .i64 k0, .int .i64 k1, .int .i64 k2]).setCells G 5 [.int .i64 k3, .int .i64 k4, .int .i64 k5]).heap[w.heap.size]? = some (.cells ZP 55 (0, 0)) from (setCells_other (Nat.ne_of_lt HGW.out) _ _ _).trans ((setCells_other (Nat.ne_of_lt HGW.out) _ _ _).trans HZ.out))
       have HBn := Lib.hid (show Below w.heap.size w ((wd.setCells G 2 [.int .i64 k0, .int .i64 k1, .int .i64 k2]).setCells G 5 [.int .i64 k3, .int .i64 k4, .int .i64 k5]) from below_cells (Nat.le_of_lt HGW.out) _ _ _ (below_cells (Nat.le_of_lt HGW.out) _ _ _ HB.out))
       have HTn := Lib.hid (show Kd.R Kd.string 9 ((wd.setCells G 2 [.int .i64 k0, .int .i64 k1, .int .i64 k2]).setCells G 5 [.int .i64 k3, .int .i64 k4, .int .i64 k5]) w.heap.size (fun k => G < k) _ pr from Kd.R_step HT.out (fun k hk _ => (setCells_other (Nat.ne_of_gt hk) _ _ _).trans (setCells_other (Nat.ne_of_gt hk) _ _ _)))
       clear HF HZ HB HT hHeld c0 c1 c2 c3 c4 c5
       generalize ((wd.setCells G 2 [.int .i64 k0, .int .i64 k1, .int .i64 k2]).setCells G 5 [.int .i64 k3, .int .i64 k4, .int .i64 k5]) = wz at HFn HZn HBn HTn ⊢
       go_wp2_with (first
        | (refine wpList_load_mid rfl 55 (.tmp 5) rfl G 0 rfl (#[.string t, .int .i64 v, .int .i64 k0, .int .i64 k1, .int .i64 k2, .int .i64 k3, .int .i64 k4, .int .i64 k5, .string bd, .int .i64 ix, .slice AT pr.length cT] : Array Value).toList _ (rangeAt_blk HFn.out) Try.underlying55 rfl (inf11 rfl) ?_)
        | (refine wpList_store_mid rfl 55 (.tmp 2) (.tmp 64) rfl w.heap.size 0 #[.string t, .int .i64 v, .int .i64 k0, .int .i64 k1, .int .i64 k2, .int .i64 k3, .int .i64 k4, .int .i64 k5, .string bd, .int .i64 ix, .slice AT pr.length cT] rfl rfl (there_blk HZn.out rfl) (inf11 rfl) one11 ?_))
       have HE := Lib.hid (setCells_full #[.string t, .int .i64 v, .int .i64 k0, .int .i64 k1, .int .i64 k2, .int .i64 k3, .int .i64 k4, .int .i64 k5, .string bd, .int .i64 ix, .slice AT pr.length cT] HZn.out rfl)
       refine bodyPost_ret (results_ct rfl _ _ w.heap.size 55 #[.string t, .int .i64 v, .int .i64 k0, .int .i64 k1, .int .i64 k2, .int .i64 k3, .int .i64 k4, .int .i64 k5, .string bd, .int .i64 ix, .slice AT pr.length cT] (0, 0) _ rfl HE.out Try.underlying55 rfl (inf11 rfl)) rfl ?_
       rw [HD.out]
       exact ⟨_, rfl, Kd.R_mono (Kd.R_step HTn.out (fun k hk _ => setCells_other (Nat.ne_of_gt (Nat.lt_trans HGW.out hk)) _ _ _)) (fun _ _ => trivial), below_cells (Nat.le_refl _) _ _ _ HBn.out⟩
     · have HD := Lib.hid (show decF t v ks bd ix pr (q6.size : Int) false = (z55, 4) from if_pos (.inr (.inr h6)))
       have d2 : ((ks.length : Int) == 6) = false := beq_eq_false_iff_ne.mpr (by omega)
       have d2' : ((ks.length : Int) != 6) = true := bne_iff_ne.mpr (by omega)
       have HN6 := Lib.hid h6
       clear hl h6
       go_wp2_with (first
        | ((go_at_call 58); (with_reducible refine (wire_Reader_Bad.calls g q6 false false q6 false w _ HI.out HB.out rfl).mono ?_); rintro e W8 ⟨rfl, hi, hb, hk⟩; have n_ := Lib.hid (bk HZ.out hk HNE.out); clear HZ; have HZ := n_; clear n_; have n_ := Lib.hid (bk HF.out hk HNF.out); clear HF; have HF := n_; clear n_; have n_ := Lib.hid (Kd.R_mono (Kd.R_keep (HI.out.apart HC.out (by decide)) hk (fun _ h => h.2)) (fun _ h => h.1)); clear HC; have HC := n_; clear n_; have n_ := Lib.hid (Kd.R_mono (Kd.R_keep (HI.out.apart HT.out (by decide)) hk (fun _ h => h.2)) (fun _ h => h.1)); clear HT; have HT := n_; clear n_; clear HI; have HI := Lib.hid hi; clear HB; have HB := Lib.hid hb; clear hi hb hk)
        | ((go_at_call 59); (with_reducible refine (wire_Reader_Left.calls g q6 false (q6.size : Int) q6 false w _ HI.out HB.out (by simp [wire_Reader_Left.f, wire_Reader_Bad.f])).mono ?_); rintro e W9 ⟨rfl, hi, hb, hk⟩; have n_ := Lib.hid (bk HZ.out hk HNE.out); clear HZ; have HZ := n_; clear n_; have n_ := Lib.hid (bk HF.out hk HNF.out); clear HF; have HF := n_; clear n_; have n_ := Lib.hid (Kd.R_mono (Kd.R_keep (HI.out.apart HC.out (by decide)) hk (fun _ h => h.2)) (fun _ h => h.1)); clear HC; have HC := n_; clear n_; have n_ := Lib.hid (Kd.R_mono (Kd.R_keep (HI.out.apart HT.out (by decide)) hk (fun _ h => h.2)) (fun _ h => h.1)); clear HT; have HT := n_; clear n_; clear HI; have HI := Lib.hid hi; clear HB; have HB := Lib.hid hb; clear hi hb hk)
        | (refine wpList_store_mid rfl 55 (.tmp 2) (.tmp 41) rfl w.heap.size 0 ZP rfl rfl (there_blk HZ.out rfl) (inf11 rfl) one11 ?_))
       have HE := Lib.hid (setCells_full ZP HZ.out rfl)
       refine bodyPost_ret (results_ct rfl _ _ w.heap.size 55 ZP (0, 0) _ rfl HE.out Try.underlying55 rfl (inf11 rfl)) rfl ?_
       rw [HD.out]
       exact ⟨_, rfl, Kd.R_nil _ _ _ _ _, below_cells (Nat.le_refl _) _ _ _ HB.out⟩
def abugidaref25_Decode.r (k : Nat) (s : ByteArray) : Option (S55 × Int) := if 131072 < s.size then some (z55, 2) else (abugidaref02_New.f s).bind fun n => (abugidaref02_Reader_Text.f k n.1 n.2.1 n.2.2).bind fun y0 => (abugidaref02_Reader_Int.f k y0.2.1 y0.2.2.1 y0.2.2.2).bind fun y1 => (abugidaref02_Reader_Ints.f k y1.2.1 y1.2.2.1 y1.2.2.2).bind fun y2 => (abugidaref02_Reader_Text.f k y2.2.1 y2.2.2.1 y2.2.2.2).bind fun y3 => (abugidaref02_Reader_Int.f k y3.2.1 y3.2.2.1 y3.2.2.2).bind fun y4 => (abugidaref02_Reader_Texts.f k y4.2.1 y4.2.2.1 y4.2.2.2).bind fun y5 => some (decF y0.1 y1.1 y2.1 y3.1 y4.1 y5.1 (wrap64 ((y5.2.1.size : Int) - y5.2.2.1)) y5.2.2.2)
set_option maxHeartbeats 8000000 in
set_option maxRecDepth 100000 in
theorem abugidaref25_Decode_big (s : ByteArray) (hs : 131072 < s.size) (w : World) : Calls Try.prog 70 #[.string s] w (DecAns w (z55, 2)) := by
 have d0 : decide (131072 < (s.size : Int)) = true := decide_eq_true (by omega)
 have d0' : (131072 < s.size) = True := eq_true hs
 have HZ := Lib.hid (blk_new w (.cells ZP 55 (0, 0)))
 have HB := Lib.hid (below_alloc (Below.refl w.heap.size w) (.cells ZP 55 (0, 0)))
 clear hs
 show Calls _ _ _ _ _
 go_enter Try.func70, Try.ntmps70
 go_wp2_with (refine wpList_store_mid rfl 55 (.tmp 2) (.tmp 10) rfl w.heap.size 0 ZP rfl rfl (there_blk HZ.out rfl) (inf11 rfl) one11 ?_)
 have HF := Lib.hid (setCells_full ZP HZ.out rfl)
 refine bodyPost_ret (results_ct rfl _ _ w.heap.size 55 ZP (0, 0) _ rfl HF.out Try.underlying55 rfl (inf11 rfl)) rfl ?_
 exact ⟨_, rfl, Kd.R_nil _ _ _ _ _, below_cells (Nat.le_refl _) _ _ _ HB.out⟩
set_option maxHeartbeats 8000000 in
set_option maxRecDepth 100000 in
theorem abugidaref25_Decode_any (k : Nat) (s t : ByteArray) (v : Int) (ks : List Int) (bd : ByteArray) (ix : Int) (pr : List ByteArray) (q1 q2 q3 q4 q5 q6 : ByteArray) (i1 i2 i3 i4 i5 i6 : Int) (b1 b2 b3 b4 b5 b6 : Bool) (h1 : abugidaref02_Reader_Text.f k s 0 false = some (t, q1, i1, b1)) (h2 : abugidaref02_Reader_Int.f k q1 i1 b1 = some (v, q2, i2, b2)) (h3 : abugidaref02_Reader_Ints.f k q2 i2 b2 = some (ks, q3, i3, b3)) (h4 : abugidaref02_Reader_Text.f k q3 i3 b3 = some (bd, q4, i4, b4)) (h5 : abugidaref02_Reader_Int.f k q4 i4 b4 = some (ix, q5, i5, b5)) (h6 : abugidaref02_Reader_Texts.f k q5 i5 b5 = some (pr, q6, i6, b6)) (hs : s.size ≤ 131072) (w : World) : Calls Try.prog 70 #[.string s] w (DecAns w (decF t v ks bd ix pr (wrap64 ((q6.size : Int) - i6)) b6)) := by
 have d0 : decide (131072 < (s.size : Int)) = false := decide_eq_false (by omega)
 have d0' : (131072 < s.size) = False := eq_false (by omega)
 have H1 := Lib.hid h1
 have H2 := Lib.hid h2
 have H3 := Lib.hid h3
 have H4 := Lib.hid h4
 have H5 := Lib.hid h5
 have H6 := Lib.hid h6
 have HZ0 := Lib.hid (blk_new w (.cells ZP 55 (0, 0)))
 have HB0 := Lib.hid (below_alloc (Below.refl w.heap.size w) (.cells ZP 55 (0, 0)))
 clear hs h1 h2 h3 h4 h5 h6
 go_enter Try.func70, Try.ntmps70
 go_upto_region 5 with (first
  | ((go_at_call 65); (with_reducible refine (abugidaref02_New.calls s s 0 false w _ HB0.out rfl).mono ?_); rintro e W1 ⟨g, rfl, hi, hb, hbx⟩; have HI := Lib.hid hi; have HB := Lib.hid hb; have HZ := Lib.hid (blk_below HZ0.out hbx); have HNE := Lib.hid (ne_typed HZ.out hi.1 (by decide)); clear hi hb hbx)
  | ((go_at_call 66); (with_reducible refine (abugidaref02_Reader_Text.calls k g s 0 false t q1 i1 b1 w _ HI.out HB.out H1.out).mono ?_); rintro e W2 ⟨rfl, hi, hb, hk⟩; have n_ := Lib.hid (bk HZ.out hk HNE.out); clear HZ; have HZ := n_; clear n_; clear HI; have HI := Lib.hid hi; clear HB; have HB := Lib.hid hb; clear hi hb hk)
  | (refine wpList_store_mid rfl 55 (.tmp 5) (.tmp 15) rfl _ 0 #[.string t, .int .i64 0, .int .i64 0, .int .i64 0, .int .i64 0, .int .i64 0, .int .i64 0, .int .i64 0, .string ⟨#[]⟩, .int .i64 0, .slice none 0 0] rfl rfl (there_blk (blk_new _ _) rfl) (inf11 rfl) one11 ?_))
 obtain ⟨G, hG⟩ : ∃ G, G = W2.heap.size := ⟨_, rfl⟩
 have HFn := Lib.hid (setCells_full #[.string t, .int .i64 0, .int .i64 0, .int .i64 0, .int .i64 0, .int .i64 0, .int .i64 0, .int .i64 0, .string ⟨#[]⟩, .int .i64 0, .slice none 0 0] (blk_new W2 (.cells ZP 55 (0, 0))) rfl)
 have HZn := Lib.hid ((setCells_other (Nat.ne_of_lt (blk_lt HZ.out)) (#[.string t, .int .i64 0, .int .i64 0, .int .i64 0, .int .i64 0, .int .i64 0, .int .i64 0, .int .i64 0, .string ⟨#[]⟩, .int .i64 0, .slice none 0 0] : Array Value).toList 0 (W2.alloc (.cells ZP 55 (0, 0)))).trans (blk_alloc HZ.out _))
 have HBn := Lib.hid (below_cells HB.out.size (#[.string t, .int .i64 0, .int .i64 0, .int .i64 0, .int .i64 0, .int .i64 0, .int .i64 0, .int .i64 0, .string ⟨#[]⟩, .int .i64 0, .slice none 0 0] : Array Value).toList 0 _ (below_alloc HB.out (.cells ZP 55 (0, 0))))
 have HIn := Lib.hid (show IsS111 w ((W2.alloc (.cells ZP 55 (0, 0))).setCells W2.heap.size 0 (#[.string t, .int .i64 0, .int .i64 0, .int .i64 0, .int .i64 0, .int .i64 0, .int .i64 0, .int .i64 0, .string ⟨#[]⟩, .int .i64 0, .slice none 0 0] : Array Value).toList) g q1 i1 b1 from ⟨(setCells_other (Nat.ne_of_lt (blk_lt HI.out.1)) _ _ _).trans (blk_alloc HI.out.1 _), HI.out.2⟩)
 have HNF := Lib.hid (show G ≠ g from hG ▸ (Nat.ne_of_gt (blk_lt HI.out.1)))
 have HGW := Lib.hid (show w.heap.size < G from hG ▸ (blk_lt HZ.out))
 rw [← hG] at HFn HZn HBn HIn
 simp only [← hG]
 clear HZ HB HI HZ0 HB0 hG
 generalize (W2.alloc (.cells ZP 55 (0, 0))).setCells G 0 (#[.string t, .int .i64 0, .int .i64 0, .int .i64 0, .int .i64 0, .int .i64 0, .int .i64 0, .int .i64 0, .string ⟨#[]⟩, .int .i64 0, .slice none 0 0] : Array Value).toList = WG at HFn HZn HBn HIn ⊢
 have HZ := HZn
 have HF := HFn
 have HB := HBn
 have HI := HIn
 clear HZn HFn HBn HIn
 simp only [Act.put]
 go_upto_region 6 with ((go_at_call 67); (with_reducible refine (abugidaref02_Reader_Int.calls k g q1 i1 b1 v q2 i2 b2 w _ HI.out HB.out H2.out).mono ?_); rintro e W3 ⟨rfl, hi, hb, hk⟩; have n_ := Lib.hid (bk HZ.out hk HNE.out); clear HZ; have HZ := n_; clear n_; have n_ := Lib.hid (bk HF.out hk HNF.out); clear HF; have HF := n_; clear n_; clear HI; have HI := Lib.hid hi; clear HB; have HB := Lib.hid hb; clear hi hb hk; have p1 := ck HF.out 1 _ rfl; have p8 := ck HF.out 8 _ rfl; have p9 := ck HF.out 9 _ rfl; have p10 := ck HF.out 10 _ rfl; have f1 := fz HF.out 1; have f8 := fz HF.out 8; have f9 := fz HF.out 9; have f10 := fz HF.out 10)
 have HFn := Lib.hid (cell_set (cs' := #[.string t, .int .i64 v, .int .i64 0, .int .i64 0, .int .i64 0, .int .i64 0, .int .i64 0, .int .i64 0, .string ⟨#[]⟩, .int .i64 0, .slice none 0 0]) HF.out 1 (by simp) (.int .i64 v) rfl)
 have HZn := Lib.hid (show (W3.setCell ⟨G, 1, none⟩ (.int .i64 v)).heap[w.heap.size]? = some (.cells ZP 55 (0, 0)) from ((Below.heap_setCell _ ⟨G, 1, none⟩ (.int .i64 v) w.heap.size (Nat.ne_of_lt HGW.out)) |>.trans HZ.out))
 have HBn := Lib.hid (show Below w.heap.size w (W3.setCell ⟨G, 1, none⟩ (.int .i64 v)) from (HB.out.setCell (p := ⟨G, 1, none⟩) (Nat.le_of_lt HGW.out) (.int .i64 v)))
 have HIn := Lib.hid (show IsS111 w (W3.setCell ⟨G, 1, none⟩ (.int .i64 v)) g q2 i2 b2 from (IsS111.far (p := ⟨G, 1, none⟩) HI.out HNF.out.symm (.int .i64 v)))
 generalize (W3.setCell ⟨G, 1, none⟩ (.int .i64 v)) = WA at HFn HZn HBn HIn ⊢
 clear HF HZ HB HI  p1 p8 p9 p10 f1 f8 f9 f10
 have HF := HFn
 clear HFn
 have HZ := HZn
 clear HZn
 have HB := HBn
 clear HBn
 have HI := HIn
 clear HIn
 go_upto_region 8 with (first
  | ((go_at_call 101); (with_reducible refine (abugidaref02_Reader_Ints.calls k g q2 i2 b2 ks q3 i3 b3 w _ HI.out HB.out H3.out).mono ?_); rintro e W4 ⟨vrC, rfl, hr, hi, hb, hk⟩; have HC0 := Lib.hid (Kd.R_lower (Kd.R_mono (ok' := fun k => G < k) (Kd.R_bound hr) (fun k hk => Nat.lt_of_lt_of_le (blk_lt HF.out) hk.2.1)) HB.out.size); clear hr; have n_ := Lib.hid (bk HZ.out hk HNE.out); clear HZ; have HZ := n_; clear n_; have n_ := Lib.hid (bk HF.out hk HNF.out); clear HF; have HF := n_; clear n_; clear HI; have HI := Lib.hid hi; clear HB; have HB := Lib.hid hb; clear hi hb hk; obtain ⟨AC, cC, rfl⟩ := Kd.R_slice HC0.out; have HC := HC0; clear HC0)
  | ((go_at_call 66); (with_reducible refine (abugidaref02_Reader_Text.calls k g q3 i3 b3 bd q4 i4 b4 w _ HI.out HB.out H4.out).mono ?_); rintro e W5 ⟨rfl, hi, hb, hk⟩; have n_ := Lib.hid (bk HZ.out hk HNE.out); clear HZ; have HZ := n_; clear n_; have n_ := Lib.hid (bk HF.out hk HNF.out); clear HF; have HF := n_; clear n_; have n_ := Lib.hid (Kd.R_mono (Kd.R_keep (HI.out.apart HC.out (by decide)) hk (fun _ h => h.2)) (fun _ h => h.1)); clear HC; have HC := n_; clear n_; clear HI; have HI := Lib.hid hi; clear HB; have HB := Lib.hid hb; clear hi hb hk; have p1 := ck HF.out 1 _ rfl; have p8 := ck HF.out 8 _ rfl; have p9 := ck HF.out 9 _ rfl; have p10 := ck HF.out 10 _ rfl; have f1 := fz HF.out 1; have f8 := fz HF.out 8; have f9 := fz HF.out 9; have f10 := fz HF.out 10))
 have HFn := Lib.hid (cell_set (cs' := #[.string t, .int .i64 v, .int .i64 0, .int .i64 0, .int .i64 0, .int .i64 0, .int .i64 0, .int .i64 0, .string bd, .int .i64 0, .slice none 0 0]) HF.out 8 (by simp) (.string bd) rfl)
 have HZn := Lib.hid (show (W5.setCell ⟨G, 8, none⟩ (.string bd)).heap[w.heap.size]? = some (.cells ZP 55 (0, 0)) from ((Below.heap_setCell _ ⟨G, 8, none⟩ (.string bd) w.heap.size (Nat.ne_of_lt HGW.out)) |>.trans HZ.out))
 have HBn := Lib.hid (show Below w.heap.size w (W5.setCell ⟨G, 8, none⟩ (.string bd)) from (HB.out.setCell (p := ⟨G, 8, none⟩) (Nat.le_of_lt HGW.out) (.string bd)))
 have HIn := Lib.hid (show IsS111 w (W5.setCell ⟨G, 8, none⟩ (.string bd)) g q4 i4 b4 from (IsS111.far (p := ⟨G, 8, none⟩) HI.out HNF.out.symm (.string bd)))
 have HCn := Lib.hid (Kd.R_far (p := ⟨G, 8, none⟩) HC.out (fun k hk e => Nat.ne_of_gt hk e) (.string bd))
 generalize (W5.setCell ⟨G, 8, none⟩ (.string bd)) = WB at HFn HZn HBn HIn HCn ⊢
 clear HF HZ HB HI HC p1 p8 p9 p10 f1 f8 f9 f10
 have HF := HFn
 clear HFn
 have HZ := HZn
 clear HZn
 have HB := HBn
 clear HBn
 have HI := HIn
 clear HIn
 have HC := HCn
 clear HCn
 go_upto_region 9 with ((go_at_call 67); (with_reducible refine (abugidaref02_Reader_Int.calls k g q4 i4 b4 ix q5 i5 b5 w _ HI.out HB.out H5.out).mono ?_); rintro e W6 ⟨rfl, hi, hb, hk⟩; have n_ := Lib.hid (bk HZ.out hk HNE.out); clear HZ; have HZ := n_; clear n_; have n_ := Lib.hid (bk HF.out hk HNF.out); clear HF; have HF := n_; clear n_; have n_ := Lib.hid (Kd.R_mono (Kd.R_keep (HI.out.apart HC.out (by decide)) hk (fun _ h => h.2)) (fun _ h => h.1)); clear HC; have HC := n_; clear n_; clear HI; have HI := Lib.hid hi; clear HB; have HB := Lib.hid hb; clear hi hb hk; have p1 := ck HF.out 1 _ rfl; have p8 := ck HF.out 8 _ rfl; have p9 := ck HF.out 9 _ rfl; have p10 := ck HF.out 10 _ rfl; have f1 := fz HF.out 1; have f8 := fz HF.out 8; have f9 := fz HF.out 9; have f10 := fz HF.out 10)
 have HFn := Lib.hid (cell_set (cs' := #[.string t, .int .i64 v, .int .i64 0, .int .i64 0, .int .i64 0, .int .i64 0, .int .i64 0, .int .i64 0, .string bd, .int .i64 ix, .slice none 0 0]) HF.out 9 (by simp) (.int .i64 ix) rfl)
 have HZn := Lib.hid (show (W6.setCell ⟨G, 9, none⟩ (.int .i64 ix)).heap[w.heap.size]? = some (.cells ZP 55 (0, 0)) from ((Below.heap_setCell _ ⟨G, 9, none⟩ (.int .i64 ix) w.heap.size (Nat.ne_of_lt HGW.out)) |>.trans HZ.out))
 have HBn := Lib.hid (show Below w.heap.size w (W6.setCell ⟨G, 9, none⟩ (.int .i64 ix)) from (HB.out.setCell (p := ⟨G, 9, none⟩) (Nat.le_of_lt HGW.out) (.int .i64 ix)))
 have HIn := Lib.hid (show IsS111 w (W6.setCell ⟨G, 9, none⟩ (.int .i64 ix)) g q5 i5 b5 from (IsS111.far (p := ⟨G, 9, none⟩) HI.out HNF.out.symm (.int .i64 ix)))
 have HCn := Lib.hid (Kd.R_far (p := ⟨G, 9, none⟩) HC.out (fun k hk e => Nat.ne_of_gt hk e) (.int .i64 ix))
 generalize (W6.setCell ⟨G, 9, none⟩ (.int .i64 ix)) = WD at HFn HZn HBn HIn HCn ⊢
 clear HF HZ HB HI HC p1 p8 p9 p10 f1 f8 f9 f10
 have HF := HFn
 clear HFn
 have HZ := HZn
 clear HZn
 have HB := HBn
 clear HBn
 have HI := HIn
 clear HIn
 have HC := HCn
 clear HCn
 go_upto_region 10 with ((go_at_call 68); (with_reducible refine (abugidaref02_Reader_Texts.calls k g q5 i5 b5 pr q6 i6 b6 w _ HI.out HB.out H6.out).mono ?_); rintro e W7 ⟨vrT, rfl, hr, hi, hb, hk⟩; have HT0 := Lib.hid (Kd.R_lower (Kd.R_mono (ok' := fun k => G < k) (Kd.R_bound hr) (fun k hk => Nat.lt_of_lt_of_le (blk_lt HF.out) hk.2.1)) HB.out.size); clear hr; have n_ := Lib.hid (bk HZ.out hk HNE.out); clear HZ; have HZ := n_; clear n_; have n_ := Lib.hid (bk HF.out hk HNF.out); clear HF; have HF := n_; clear n_; have n_ := Lib.hid (Kd.R_mono (Kd.R_keep (HI.out.apart HC.out (by decide)) hk (fun _ h => h.2)) (fun _ h => h.1)); clear HC; have HC := n_; clear n_; clear HI; have HI := Lib.hid hi; clear HB; have HB := Lib.hid hb; clear hi hb hk; obtain ⟨AT, cT, rfl⟩ := Kd.R_slice HT0.out; have HT := HT0; clear HT0; have p1 := ck HF.out 1 _ rfl; have p8 := ck HF.out 8 _ rfl; have p9 := ck HF.out 9 _ rfl; have p10 := ck HF.out 10 _ rfl; have f1 := fz HF.out 1; have f8 := fz HF.out 8; have f9 := fz HF.out 9; have f10 := fz HF.out 10)
 have HFn := Lib.hid (cell_set (cs' := #[.string t, .int .i64 v, .int .i64 0, .int .i64 0, .int .i64 0, .int .i64 0, .int .i64 0, .int .i64 0, .string bd, .int .i64 ix, .slice AT pr.length cT]) HF.out 10 (by simp) (.slice AT pr.length cT) rfl)
 have HZn := Lib.hid (show (W7.setCell ⟨G, 10, none⟩ (.slice AT pr.length cT)).heap[w.heap.size]? = some (.cells ZP 55 (0, 0)) from ((Below.heap_setCell _ ⟨G, 10, none⟩ (.slice AT pr.length cT) w.heap.size (Nat.ne_of_lt HGW.out)) |>.trans HZ.out))
 have HBn := Lib.hid (show Below w.heap.size w (W7.setCell ⟨G, 10, none⟩ (.slice AT pr.length cT)) from (HB.out.setCell (p := ⟨G, 10, none⟩) (Nat.le_of_lt HGW.out) (.slice AT pr.length cT)))
 have HIn := Lib.hid (show IsS111 w (W7.setCell ⟨G, 10, none⟩ (.slice AT pr.length cT)) g q6 i6 b6 from (IsS111.far (p := ⟨G, 10, none⟩) HI.out HNF.out.symm (.slice AT pr.length cT)))
 have HCn := Lib.hid (Kd.R_far (p := ⟨G, 10, none⟩) HC.out (fun k hk e => Nat.ne_of_gt hk e) (.slice AT pr.length cT))
 have HTn := Lib.hid (Kd.R_far (p := ⟨G, 10, none⟩) HT.out (fun k hk e => Nat.ne_of_gt hk e) (.slice AT pr.length cT))
 generalize (W7.setCell ⟨G, 10, none⟩ (.slice AT pr.length cT)) = WK at HFn HZn HBn HIn HCn HTn ⊢
 clear HF HZ HB HI HC HT p1 p8 p9 p10 f1 f8 f9 f10
 have HF := HFn
 clear HFn
 have HZ := HZn
 clear HZn
 have HB := HBn
 clear HBn
 have HI := HIn
 clear HIn
 have HC := HCn
 clear HCn
 have HT := HTn
 clear HTn
 obtain ⟨lf, hlf⟩ : ∃ x, x = (wrap64 ((q6.size : Int) - i6)) := ⟨_, rfl⟩
 cases b6 with
 | true =>
   have HD := Lib.hid (show decF t v ks bd ix pr (wrap64 ((q6.size : Int) - i6)) true = (z55, 4) from if_pos (.inl rfl))
   go_wp2_with (first
    | ((go_at_call 99); (with_reducible refine (abugidaref02_Reader_Bad.calls g q6 i6 true true q6 i6 true w _ HI.out HB.out rfl).mono ?_); rintro e W8 ⟨rfl, hi, hb, hk⟩; have n_ := Lib.hid (bk HZ.out hk HNE.out); clear HZ; have HZ := n_; clear n_; have n_ := Lib.hid (bk HF.out hk HNF.out); clear HF; have HF := n_; clear n_; have n_ := Lib.hid (Kd.R_mono (Kd.R_keep (HI.out.apart HC.out (by decide)) hk (fun _ h => h.2)) (fun _ h => h.1)); clear HC; have HC := n_; clear n_; have n_ := Lib.hid (Kd.R_mono (Kd.R_keep (HI.out.apart HT.out (by decide)) hk (fun _ h => h.2)) (fun _ h => h.1)); clear HT; have HT := n_; clear n_; clear HI; have HI := Lib.hid hi; clear HB; have HB := Lib.hid hb; clear hi hb hk)
    | (refine wpList_store_mid rfl 55 (.tmp 2) (.tmp 42) rfl w.heap.size 0 ZP rfl rfl (there_blk HZ.out rfl) (inf11 rfl) one11 ?_))
   have HE := Lib.hid (setCells_full ZP HZ.out rfl)
   refine bodyPost_ret (results_ct rfl _ _ w.heap.size 55 ZP (0, 0) _ rfl HE.out Try.underlying55 rfl (inf11 rfl)) rfl ?_
   rw [HD.out]
   exact ⟨_, rfl, Kd.R_nil _ _ _ _ _, below_cells (Nat.le_refl _) _ _ _ HB.out⟩
 | false =>
   by_cases hl : 0 < (wrap64 ((q6.size : Int) - i6))
   · have HD := Lib.hid (show decF t v ks bd ix pr (wrap64 ((q6.size : Int) - i6)) false = (z55, 4) from if_pos (.inr (.inl hl)))
     have d1 : decide (0 < (wrap64 ((q6.size : Int) - i6))) = true := decide_eq_true hl
     clear hl
     go_wp2_with (first
      | ((go_at_call 99); (with_reducible refine (abugidaref02_Reader_Bad.calls g q6 i6 false false q6 i6 false w _ HI.out HB.out rfl).mono ?_); rintro e W8 ⟨rfl, hi, hb, hk⟩; have n_ := Lib.hid (bk HZ.out hk HNE.out); clear HZ; have HZ := n_; clear n_; have n_ := Lib.hid (bk HF.out hk HNF.out); clear HF; have HF := n_; clear n_; have n_ := Lib.hid (Kd.R_mono (Kd.R_keep (HI.out.apart HC.out (by decide)) hk (fun _ h => h.2)) (fun _ h => h.1)); clear HC; have HC := n_; clear n_; have n_ := Lib.hid (Kd.R_mono (Kd.R_keep (HI.out.apart HT.out (by decide)) hk (fun _ h => h.2)) (fun _ h => h.1)); clear HT; have HT := n_; clear n_; clear HI; have HI := Lib.hid hi; clear HB; have HB := Lib.hid hb; clear hi hb hk)
      | ((go_at_call 69); (with_reducible refine (abugidaref02_Reader_Left.calls g q6 i6 false (wrap64 ((q6.size : Int) - i6)) q6 i6 false w _ HI.out HB.out zay3).mono ?_); rintro e W9 ⟨rfl, hi, hb, hk⟩; have n_ := Lib.hid (bk HZ.out hk HNE.out); clear HZ; have HZ := n_; clear n_; have n_ := Lib.hid (bk HF.out hk HNF.out); clear HF; have HF := n_; clear n_; have n_ := Lib.hid (Kd.R_mono (Kd.R_keep (HI.out.apart HC.out (by decide)) hk (fun _ h => h.2)) (fun _ h => h.1)); clear HC; have HC := n_; clear n_; have n_ := Lib.hid (Kd.R_mono (Kd.R_keep (HI.out.apart HT.out (by decide)) hk (fun _ h => h.2)) (fun _ h => h.1)); clear HT; have HT := n_; clear n_; clear HI; have HI := Lib.hid hi; clear HB; have HB := Lib.hid hb; clear hi hb hk)
      | (refine wpList_store_mid rfl 55 (.tmp 2) (.tmp 42) rfl w.heap.size 0 ZP rfl rfl (there_blk HZ.out rfl) (inf11 rfl) one11 ?_))
     have HE := Lib.hid (setCells_full ZP HZ.out rfl)
     refine bodyPost_ret (results_ct rfl _ _ w.heap.size 55 ZP (0, 0) _ rfl HE.out Try.underlying55 rfl (inf11 rfl)) rfl ?_
     rw [HD.out]
     exact ⟨_, rfl, Kd.R_nil _ _ _ _ _, below_cells (Nat.le_refl _) _ _ _ HB.out⟩
   · have d1 : decide (0 < (wrap64 ((q6.size : Int) - i6))) = false := decide_eq_false hl
     by_cases h6 : ks.length = 6
     · obtain ⟨k0, k1, k2, k3, k4, k5, rfl⟩ := len6 h6
       have HD := Lib.hid (show decF t v [k0, k1, k2, k3, k4, k5] bd ix pr (wrap64 ((q6.size : Int) - i6)) false = (⟨t, v, ⟨k0, k1, k2⟩, ⟨k3, k4, k5⟩, bd, ix, pr⟩, 0) from if_neg (fun h => by rcases h with h | h | h; cases h; exact hl h; exact h rfl))
       clear hl h6
       go_upto_region 12 with (first
        | ((go_at_call 99); (with_reducible refine (abugidaref02_Reader_Bad.calls g q6 i6 false false q6 i6 false w _ HI.out HB.out rfl).mono ?_); rintro e W8 ⟨rfl, hi, hb, hk⟩; have n_ := Lib.hid (bk HZ.out hk HNE.out); clear HZ; have HZ := n_; clear n_; have n_ := Lib.hid (bk HF.out hk HNF.out); clear HF; have HF := n_; clear n_; have n_ := Lib.hid (Kd.R_mono (Kd.R_keep (HI.out.apart HC.out (by decide)) hk (fun _ h => h.2)) (fun _ h => h.1)); clear HC; have HC := n_; clear n_; have n_ := Lib.hid (Kd.R_mono (Kd.R_keep (HI.out.apart HT.out (by decide)) hk (fun _ h => h.2)) (fun _ h => h.1)); clear HT; have HT := n_; clear n_; clear HI; have HI := Lib.hid hi; clear HB; have HB := Lib.hid hb; clear hi hb hk)
        | ((go_at_call 69); (with_reducible refine (abugidaref02_Reader_Left.calls g q6 i6 false (wrap64 ((q6.size : Int) - i6)) q6 i6 false w _ HI.out HB.out zay3).mono ?_); rintro e W9 ⟨rfl, hi, hb, hk⟩; have n_ := Lib.hid (bk HZ.out hk HNE.out); clear HZ; have HZ := n_; clear n_; have n_ := Lib.hid (bk HF.out hk HNF.out); clear HF; have HF := n_; clear n_; have n_ := Lib.hid (Kd.R_mono (Kd.R_keep (HI.out.apart HC.out (by decide)) hk (fun _ h => h.2)) (fun _ h => h.1)); clear HC; have HC := n_; clear n_; have n_ := Lib.hid (Kd.R_mono (Kd.R_keep (HI.out.apart HT.out (by decide)) hk (fun _ h => h.2)) (fun _ h => h.1)); clear HT; have HT := n_; clear n_; clear HI; have HI := Lib.hid hi; clear HB; have HB := Lib.hid hb; clear hi hb hk))
       obtain ⟨gc, rfl⟩ := R_some HC.out (by simp)
       have HGC := Lib.hid (show gc ≠ G from Nat.ne_of_gt (HC.out.1 gc (by simp [Value.ownBlock])))
       have c0 : W9.drew.cell? ⟨gc, 0, none⟩ = some (.int .i64 k0) := (Kd.R_cell 0 HC.out 0 (by omega) (by simp)).1
       have c1 : W9.drew.cell? ⟨gc, 1, none⟩ = some (.int .i64 k1) := (Kd.R_cell 0 HC.out 1 (by omega) (by simp)).1
       have c2 : W9.drew.cell? ⟨gc, 2, none⟩ = some (.int .i64 k2) := (Kd.R_cell 0 HC.out 2 (by omega) (by simp)).1
       have c3 : W9.drew.cell? ⟨gc, 3, none⟩ = some (.int .i64 k3) := (Kd.R_cell 0 HC.out 3 (by omega) (by simp)).1
       have c4 : W9.drew.cell? ⟨gc, 4, none⟩ = some (.int .i64 k4) := (Kd.R_cell 0 HC.out 4 (by omega) (by simp)).1
       have c5 : W9.drew.cell? ⟨gc, 5, none⟩ = some (.int .i64 k5) := (Kd.R_cell 0 HC.out 5 (by omega) (by simp)).1
       have HFd := Lib.hid (show W9.drew.heap[G]? = _ from HF.out)
       have HZd := Lib.hid (show W9.drew.heap[w.heap.size]? = _ from HZ.out)
       have HBd := Lib.hid HB.out.drew
       have HTd := Lib.hid (Kd.R_drew HT.out)
       clear HF HZ HB HI HC HT
       have HF := HFd
       have HZ := HZd
       have HB := HBd
       have HT := HTd
       clear HFd HZd HBd HTd
       refine start_ (n := 12) (S := fun w' => w'.cell? ⟨gc, 0, none⟩ = some (.int .i64 k0) ∧ w'.cell? ⟨gc, 1, none⟩ = some (.int .i64 k1) ∧ w'.cell? ⟨gc, 2, none⟩ = some (.int .i64 k2) ∧ w'.cell? ⟨gc, 3, none⟩ = some (.int .i64 k3) ∧ w'.cell? ⟨gc, 4, none⟩ = some (.int .i64 k4) ∧ w'.cell? ⟨gc, 5, none⟩ = some (.int .i64 k5)) (ds := [11]) #[false, false, false, false, false, false, false, false, false, false, false, false] (by kernel_rfl) rfl rfl ⟨c0, c1, c2, c3, c4, c5⟩ (fun hHeld => ?_)
       generalize W9.drew = wd at HF HZ HB HT c0 c1 c2 c3 c4 c5 hHeld ⊢
       refine pA 0 (some 43) rfl rfl zay1 zay0 ?_
       refine pA 1 (some 44) rfl rfl zay1 zay0 ?_
       refine pA 3 (some 46) rfl rfl zay1 zay0 ?_
       refine pA 4 (some 47) rfl rfl zay1 zay0 ?_
       refine pA 6 (some 49) rfl rfl zay1 zay0 ?_
       refine pA 7 (some 50) rfl rfl zay1 zay0 ?_
       refine tA 2 (some 45) rfl rfl zay2 hHeld zay0 ?_
       refine tA 5 (some 48) rfl rfl zay2 hHeld zay0 ?_
       refine tA 8 (some 51) rfl rfl zay2 hHeld zay0 ?_
       refine pA 9 (some 52) rfl rfl zay1 zay0 ?_
       refine pA 10 (some 53) rfl rfl zay1 zay0 ?_
       refine last_ (i := 11) (N := none) #[true, true, true, true, true, true, true, true, true, true, true, true] rfl rfl (by kernel_rfl) (by decide) (fun K hK => ?_)
       refine store_ (by rfl) rfl 52 (.tmp 53) (.tmp 52) rfl G 2 #[.int .i64 k0, .int .i64 k1, .int .i64 k2] rfl rfl (there_off HF.out (by simp)) (inf3 rfl) one3 ?_
       refine hK.out _ _ ?_
       clear hK K
       refine done_ (by kernel_rfl) ?_
       have d0_ : (wd.setCells G 2 [.int .i64 k0, .int .i64 k1, .int .i64 k2]).cell? ⟨gc, 0, none⟩ = some (.int .i64 k0) := cell_sc c0 HGC.out
       have d1_ : (wd.setCells G 2 [.int .i64 k0, .int .i64 k1, .int .i64 k2]).cell? ⟨gc, 1, none⟩ = some (.int .i64 k1) := cell_sc c1 HGC.out
       have d2_ : (wd.setCells G 2 [.int .i64 k0, .int .i64 k1, .int .i64 k2]).cell? ⟨gc, 2, none⟩ = some (.int .i64 k2) := cell_sc c2 HGC.out
       have d3_ : (wd.setCells G 2 [.int .i64 k0, .int .i64 k1, .int .i64 k2]).cell? ⟨gc, 3, none⟩ = some (.int .i64 k3) := cell_sc c3 HGC.out
       have d4_ : (wd.setCells G 2 [.int .i64 k0, .int .i64 k1, .int .i64 k2]).cell? ⟨gc, 4, none⟩ = some (.int .i64 k4) := cell_sc c4 HGC.out
       have d5_ : (wd.setCells G 2 [.int .i64 k0, .int .i64 k1, .int .i64 k2]).cell? ⟨gc, 5, none⟩ = some (.int .i64 k5) := cell_sc c5 HGC.out
       have HFn := Lib.hid (show (wd.setCells G 2 [.int .i64 k0, .int .i64 k1, .int .i64 k2]).heap[G]? = some (.cells #[.string t, .int .i64 v, .int .i64 k0, .int .i64 k1, .int .i64 k2, .int .i64 0, .int .i64 0, .int .i64 0, .string bd, .int .i64 ix, .slice AT pr.length cT] 55 (0, 0)) from setCells_blk _ 2 _ _ HF.out)
       have HZn := Lib.hid (show (wd.setCells G 2 [.int .i64 k0, .int .i64 k1, .int .i64 k2]).heap[w.heap.size]? = some (.cells ZP 55 (0, 0)) from (setCells_other (Nat.ne_of_lt HGW.out) _ _ _).trans HZ.out)
       have HBn := Lib.hid (show Below w.heap.size w (wd.setCells G 2 [.int .i64 k0, .int .i64 k1, .int .i64 k2]) from below_cells (Nat.le_of_lt HGW.out) _ _ _ HB.out)
       have HTn := Lib.hid (show Kd.R Kd.string 9 (wd.setCells G 2 [.int .i64 k0, .int .i64 k1, .int .i64 k2]) w.heap.size (fun k => G < k) _ pr from Kd.R_step HT.out (fun k hk _ => (setCells_other (Nat.ne_of_gt hk) _ _ _)))
       clear HF HZ HB HT hHeld c0 c1 c2 c3 c4 c5
       generalize (wd.setCells G 2 [.int .i64 k0, .int .i64 k1, .int .i64 k2]) = wq at HFn HZn HBn HTn d0_ d1_ d2_ d3_ d4_ d5_ ⊢
       have HF := Lib.hid (show wq.drew.heap[G]? = _ from HFn.out)
       have HZ := Lib.hid (show wq.drew.heap[w.heap.size]? = _ from HZn.out)
       have HB := Lib.hid HBn.out.drew
       have HT := Lib.hid (Kd.R_drew HTn.out)
       clear HFn HZn HBn HTn
       have c0 : wq.drew.cell? ⟨gc, 0, none⟩ = some (.int .i64 k0) := d0_
       have c1 : wq.drew.cell? ⟨gc, 1, none⟩ = some (.int .i64 k1) := d1_
       have c2 : wq.drew.cell? ⟨gc, 2, none⟩ = some (.int .i64 k2) := d2_
       have c3 : wq.drew.cell? ⟨gc, 3, none⟩ = some (.int .i64 k3) := d3_
       have c4 : wq.drew.cell? ⟨gc, 4, none⟩ = some (.int .i64 k4) := d4_
       have c5 : wq.drew.cell? ⟨gc, 5, none⟩ = some (.int .i64 k5) := d5_
       clear d0_ d1_ d2_ d3_ d4_ d5_
       go_upto_region 13 with fail
       refine start_ (n := 12) (S := fun w' => w'.cell? ⟨gc, 0, none⟩ = some (.int .i64 k0) ∧ w'.cell? ⟨gc, 1, none⟩ = some (.int .i64 k1) ∧ w'.cell? ⟨gc, 2, none⟩ = some (.int .i64 k2) ∧ w'.cell? ⟨gc, 3, none⟩ = some (.int .i64 k3) ∧ w'.cell? ⟨gc, 4, none⟩ = some (.int .i64 k4) ∧ w'.cell? ⟨gc, 5, none⟩ = some (.int .i64 k5)) (ds := [11]) #[false, false, false, false, false, false, false, false, false, false, false, false] (by kernel_rfl) rfl rfl ⟨c0, c1, c2, c3, c4, c5⟩ (fun hHeld => ?_)
       generalize wq.drew = wd at HF HZ HB HT c0 c1 c2 c3 c4 c5 hHeld ⊢
       refine pA 0 (some 54) rfl rfl zay1 zay0 ?_
       refine pA 1 (some 55) rfl rfl zay1 zay0 ?_
       refine pA 3 (some 57) rfl rfl zay1 zay0 ?_
       refine pA 4 (some 58) rfl rfl zay1 zay0 ?_
       refine pA 6 (some 60) rfl rfl zay1 zay0 ?_
       refine pA 7 (some 61) rfl rfl zay1 zay0 ?_
       refine tA 2 (some 56) rfl rfl zay2 hHeld zay0 ?_
       refine tA 5 (some 59) rfl rfl zay2 hHeld zay0 ?_
       refine tA 8 (some 62) rfl rfl zay2 hHeld zay0 ?_
       refine pA 9 (some 63) rfl rfl zay1 zay0 ?_
       refine pA 10 (some 64) rfl rfl zay1 zay0 ?_
       refine last_ (i := 11) (N := none) #[true, true, true, true, true, true, true, true, true, true, true, true] rfl rfl (by kernel_rfl) (by decide) (fun K hK => ?_)
       refine store_ (by rfl) rfl 52 (.tmp 64) (.tmp 63) rfl G 5 #[.int .i64 k3, .int .i64 k4, .int .i64 k5] rfl rfl (there_off HF.out (by simp)) (inf3 rfl) one3 ?_
       refine hK.out _ _ ?_
       clear hK K
       refine done_ (by kernel_rfl) ?_
       have HFn := Lib.hid (show (wd.setCells G 5 [.int .i64 k3, .int .i64 k4, .int .i64 k5]).heap[G]? = some (.cells #[.string t, .int .i64 v, .int .i64 k0, .int .i64 k1, .int .i64 k2, .int .i64 k3, .int .i64 k4, .int .i64 k5, .string bd, .int .i64 ix, .slice AT pr.length cT] 55 (0, 0)) from setCells_blk _ 5 _ _ HF.out)
       have HZn := Lib.hid (show (wd.setCells G 5 [.int .i64 k3, .int .i64 k4, .int .i64 k5]).heap[w.heap.size]? = some (.cells ZP 55 (0, 0)) from (setCells_other (Nat.ne_of_lt HGW.out) _ _ _).trans HZ.out)
       have HBn := Lib.hid (show Below w.heap.size w (wd.setCells G 5 [.int .i64 k3, .int .i64 k4, .int .i64 k5]) from below_cells (Nat.le_of_lt HGW.out) _ _ _ HB.out)
       have HTn := Lib.hid (show Kd.R Kd.string 9 (wd.setCells G 5 [.int .i64 k3, .int .i64 k4, .int .i64 k5]) w.heap.size (fun k => G < k) _ pr from Kd.R_step HT.out (fun k hk _ => (setCells_other (Nat.ne_of_gt hk) _ _ _)))
       clear HF HZ HB HT hHeld c0 c1 c2 c3 c4 c5
       generalize (wd.setCells G 5 [.int .i64 k3, .int .i64 k4, .int .i64 k5]) = wz at HFn HZn HBn HTn ⊢
       go_wp2_with (first
        | (refine wpList_load_mid rfl 55 (.tmp 5) rfl G 0 rfl (#[.string t, .int .i64 v, .int .i64 k0, .int .i64 k1, .int .i64 k2, .int .i64 k3, .int .i64 k4, .int .i64 k5, .string bd, .int .i64 ix, .slice AT pr.length cT] : Array Value).toList _ (rangeAt_blk HFn.out) Try.underlying55 rfl (inf11 rfl) ?_)
        | (refine wpList_store_mid rfl 55 (.tmp 2) (.tmp 65) rfl w.heap.size 0 #[.string t, .int .i64 v, .int .i64 k0, .int .i64 k1, .int .i64 k2, .int .i64 k3, .int .i64 k4, .int .i64 k5, .string bd, .int .i64 ix, .slice AT pr.length cT] rfl rfl (there_blk HZn.out rfl) (inf11 rfl) one11 ?_))
       have HE := Lib.hid (setCells_full #[.string t, .int .i64 v, .int .i64 k0, .int .i64 k1, .int .i64 k2, .int .i64 k3, .int .i64 k4, .int .i64 k5, .string bd, .int .i64 ix, .slice AT pr.length cT] HZn.out rfl)
       refine bodyPost_ret (results_ct rfl _ _ w.heap.size 55 #[.string t, .int .i64 v, .int .i64 k0, .int .i64 k1, .int .i64 k2, .int .i64 k3, .int .i64 k4, .int .i64 k5, .string bd, .int .i64 ix, .slice AT pr.length cT] (0, 0) _ rfl HE.out Try.underlying55 rfl (inf11 rfl)) rfl ?_
       rw [HD.out]
       exact ⟨_, rfl, Kd.R_mono (Kd.R_step HTn.out (fun k hk _ => setCells_other (Nat.ne_of_gt (Nat.lt_trans HGW.out hk)) _ _ _)) (fun _ _ => trivial), below_cells (Nat.le_refl _) _ _ _ HBn.out⟩
     · have HD := Lib.hid (show decF t v ks bd ix pr (wrap64 ((q6.size : Int) - i6)) false = (z55, 4) from if_pos (.inr (.inr h6)))
       have d2 : ((ks.length : Int) == 6) = false := beq_eq_false_iff_ne.mpr (by omega)
       have d2' : ((ks.length : Int) != 6) = true := bne_iff_ne.mpr (by omega)
       have HN6 := Lib.hid h6
       clear hl h6
       go_wp2_with (first
        | ((go_at_call 99); (with_reducible refine (abugidaref02_Reader_Bad.calls g q6 i6 false false q6 i6 false w _ HI.out HB.out rfl).mono ?_); rintro e W8 ⟨rfl, hi, hb, hk⟩; have n_ := Lib.hid (bk HZ.out hk HNE.out); clear HZ; have HZ := n_; clear n_; have n_ := Lib.hid (bk HF.out hk HNF.out); clear HF; have HF := n_; clear n_; have n_ := Lib.hid (Kd.R_mono (Kd.R_keep (HI.out.apart HC.out (by decide)) hk (fun _ h => h.2)) (fun _ h => h.1)); clear HC; have HC := n_; clear n_; have n_ := Lib.hid (Kd.R_mono (Kd.R_keep (HI.out.apart HT.out (by decide)) hk (fun _ h => h.2)) (fun _ h => h.1)); clear HT; have HT := n_; clear n_; clear HI; have HI := Lib.hid hi; clear HB; have HB := Lib.hid hb; clear hi hb hk)
        | ((go_at_call 69); (with_reducible refine (abugidaref02_Reader_Left.calls g q6 i6 false (wrap64 ((q6.size : Int) - i6)) q6 i6 false w _ HI.out HB.out zay3).mono ?_); rintro e W9 ⟨rfl, hi, hb, hk⟩; have n_ := Lib.hid (bk HZ.out hk HNE.out); clear HZ; have HZ := n_; clear n_; have n_ := Lib.hid (bk HF.out hk HNF.out); clear HF; have HF := n_; clear n_; have n_ := Lib.hid (Kd.R_mono (Kd.R_keep (HI.out.apart HC.out (by decide)) hk (fun _ h => h.2)) (fun _ h => h.1)); clear HC; have HC := n_; clear n_; have n_ := Lib.hid (Kd.R_mono (Kd.R_keep (HI.out.apart HT.out (by decide)) hk (fun _ h => h.2)) (fun _ h => h.1)); clear HT; have HT := n_; clear n_; clear HI; have HI := Lib.hid hi; clear HB; have HB := Lib.hid hb; clear hi hb hk)
        | (refine wpList_store_mid rfl 55 (.tmp 2) (.tmp 42) rfl w.heap.size 0 ZP rfl rfl (there_blk HZ.out rfl) (inf11 rfl) one11 ?_))
       have HE := Lib.hid (setCells_full ZP HZ.out rfl)
       refine bodyPost_ret (results_ct rfl _ _ w.heap.size 55 ZP (0, 0) _ rfl HE.out Try.underlying55 rfl (inf11 rfl)) rfl ?_
       rw [HD.out]
       exact ⟨_, rfl, Kd.R_nil _ _ _ _ _, below_cells (Nat.le_refl _) _ _ _ HB.out⟩
def patch_Decode.f (k : Nat) (s : ByteArray) : Option (ByteArray × Int × Int × Int × Int × Int × Int × Int × ByteArray × Int × List ByteArray × Int) := (patch_Decode.r k s).bind fun x => some (flatP x)
theorem patch_Decode.calls (k : Nat) (s : ByteArray) (r1 : ByteArray) (r2 r3 r4 r5 r6 r7 r8 : Int) (r9 : ByteArray) (r10 : Int) (r11 : List ByteArray) (r12 : Int) (w : World) (h : patch_Decode.f k s = some (r1, r2, r3, r4, r5, r6, r7, r8, r9, r10, r11, r12)) :
 Calls Try.prog 62 #[.string s] w fun e w' => ∃ v10_ : Value, e = .returned (.tuple #[.agg #[.string r1, .int .i64 r2, .int .i64 r3, .int .i64 r4, .int .i64 r5, .int .i64 r6, .int .i64 r7, .int .i64 r8, .string r9, .int .i64 r10, v10_], .int .i64 r12]) ∧ Kd.R Kd.string 9 w' w.heap.size (fun _ => True) v10_ r11 ∧ Below w.heap.size w w' := by
 unfold patch_Decode.f at h
 obtain ⟨x, hx, h⟩ := Option.bind_eq_some_iff.1 h
 have h := Option.some.inj h
 simp only [flatP, Prod.mk.injEq] at h
 obtain ⟨rfl, rfl, rfl, rfl, rfl, rfl, rfl, rfl, rfl, rfl, rfl, rfl⟩ := h
 show Calls _ _ _ _ (DecAns w x)
 unfold patch_Decode.r at hx
 by_cases hs : 131072 < s.size
 · rw [if_pos hs] at hx
   rw [← Option.some.inj hx]
   exact patch_Decode_big s hs w
 · rw [if_neg hs] at hx
   obtain ⟨n, hn, h⟩ := Option.bind_eq_some_iff.1 hx
   have hn := Option.some.inj hn
   subst hn
   obtain ⟨⟨y1, q1, b1⟩, h1, h⟩ := Option.bind_eq_some_iff.1 h
   obtain ⟨⟨y2, q2, b2⟩, h2, h⟩ := Option.bind_eq_some_iff.1 h
   obtain ⟨⟨y3, q3, b3⟩, h3, h⟩ := Option.bind_eq_some_iff.1 h
   obtain ⟨⟨y4, q4, b4⟩, h4, h⟩ := Option.bind_eq_some_iff.1 h
   obtain ⟨⟨y5, q5, b5⟩, h5, h⟩ := Option.bind_eq_some_iff.1 h
   obtain ⟨⟨y6, q6, b6⟩, h6, h⟩ := Option.bind_eq_some_iff.1 h
   rw [← Option.some.inj h]
   exact patch_Decode_any k s y1 y2 y3 y4 y5 y6 q1 q2 q3 q4 q5 q6 b1 b2 b3 b4 b5 b6 h1 h2 h3 h4 h5 h6 (by omega) w
def abugidaref25_Decode.f (k : Nat) (s : ByteArray) : Option (ByteArray × Int × Int × Int × Int × Int × Int × Int × ByteArray × Int × List ByteArray × Int) := (abugidaref25_Decode.r k s).bind fun x => some (flatP x)
theorem abugidaref25_Decode.calls (k : Nat) (s : ByteArray) (r1 : ByteArray) (r2 r3 r4 r5 r6 r7 r8 : Int) (r9 : ByteArray) (r10 : Int) (r11 : List ByteArray) (r12 : Int) (w : World) (h : abugidaref25_Decode.f k s = some (r1, r2, r3, r4, r5, r6, r7, r8, r9, r10, r11, r12)) :
 Calls Try.prog 70 #[.string s] w fun e w' => ∃ v10_ : Value, e = .returned (.tuple #[.agg #[.string r1, .int .i64 r2, .int .i64 r3, .int .i64 r4, .int .i64 r5, .int .i64 r6, .int .i64 r7, .int .i64 r8, .string r9, .int .i64 r10, v10_], .int .i64 r12]) ∧ Kd.R Kd.string 9 w' w.heap.size (fun _ => True) v10_ r11 ∧ Below w.heap.size w w' := by
 unfold abugidaref25_Decode.f at h
 obtain ⟨x, hx, h⟩ := Option.bind_eq_some_iff.1 h
 have h := Option.some.inj h
 simp only [flatP, Prod.mk.injEq] at h
 obtain ⟨rfl, rfl, rfl, rfl, rfl, rfl, rfl, rfl, rfl, rfl, rfl, rfl⟩ := h
 show Calls _ _ _ _ (DecAns w x)
 unfold abugidaref25_Decode.r at hx
 by_cases hs : 131072 < s.size
 · rw [if_pos hs] at hx
   rw [← Option.some.inj hx]
   exact abugidaref25_Decode_big s hs w
 · rw [if_neg hs] at hx
   obtain ⟨n, hn, h⟩ := Option.bind_eq_some_iff.1 hx
   have hn := Option.some.inj hn
   subst hn
   obtain ⟨⟨y1, q1, i1, b1⟩, h1, h⟩ := Option.bind_eq_some_iff.1 h
   obtain ⟨⟨y2, q2, i2, b2⟩, h2, h⟩ := Option.bind_eq_some_iff.1 h
   obtain ⟨⟨y3, q3, i3, b3⟩, h3, h⟩ := Option.bind_eq_some_iff.1 h
   obtain ⟨⟨y4, q4, i4, b4⟩, h4, h⟩ := Option.bind_eq_some_iff.1 h
   obtain ⟨⟨y5, q5, i5, b5⟩, h5, h⟩ := Option.bind_eq_some_iff.1 h
   obtain ⟨⟨y6, q6, i6, b6⟩, h6, h⟩ := Option.bind_eq_some_iff.1 h
   rw [← Option.some.inj h]
   exact abugidaref25_Decode_any k s y1 y2 y3 y4 y5 y6 q1 q2 q3 q4 q5 q6 i1 i2 i3 i4 i5 i6 b1 b2 b3 b4 b5 b6 h1 h2 h3 h4 h5 h6 (by omega) w
end Go.Proofs.Ythokkeljfdfppaa.Rl
