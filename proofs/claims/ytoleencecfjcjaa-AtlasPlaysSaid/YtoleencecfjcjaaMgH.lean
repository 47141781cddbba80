/- Several texts of this claim, one behind the other: AwA, AwB, AwC, AwD, AwE, AwF. -/
import Derived.Test.YtoleencecfjcjaaMgF
import Derived.Test.YtoleencecfjcjaaMgG
/- The law's small functions: SameTexts, texts, name, sizes, lies. -/
set_option linter.unusedVariables false
set_option linter.unusedSimpArgs false
namespace Go.Proofs.Ytoleencecfjcjaa.At
open Go.RowKit Go.Proofs.YtoleencecfjcjaaW.PrintWords Go.Proofs.YtoleencecfjcjaaW.PrintLast Go.Proofs.YtoleencecfjcjaaW.PrintMore Go.Proofs.Ytoleencecfjcjaa.Rng Go.Proofs.Ytoleencecfjcjaa.Pb Go.Proofs.Ytoleencecfjcjaa.Gw Go.Proofs.Ytoleencecfjcjaa.Pure
theorem toList_eq {a b : ByteArray} : a.toList = b.toList ↔ a = b := ⟨ext_of_toList, fun h => h ▸ rfl⟩
theorem SameTexts_loop (a b : List ByteArray) (hl : a.length = b.length) (ha : a.length ≤ 900000) : ∀ (d i : Nat), a.length - i = d → i ≤ a.length → Ev (fun k => abugidaref02_SameTexts.l0 k a b i) (decide (a.drop i = b.drop i))
  | 0, i, hd, hi => by
    refine Ev.step (fun k => abugidaref02_SameTexts.l0.eq_2 ..) ?_
    refine evN (by omega) ?_
    rw [List.drop_of_length_le (by omega), List.drop_of_length_le (by omega)]
    exact Ev.now _
  | d + 1, i, hd, hi => by
    obtain ⟨x, hx⟩ := get_some (l := a) (i := i) (by omega)
    obtain ⟨y, hy⟩ := get_some (l := b) (i := i) (by omega)
    have hxe : a.drop i = x :: a.drop (i + 1) := by
      rw [List.drop_eq_getElem_cons (by omega)]
      congr 1
      rw [List.getElem?_eq_getElem (by omega)] at hx
      exact Option.some.inj hx
    have hye : b.drop i = y :: b.drop (i + 1) := by
      rw [List.drop_eq_getElem_cons (by omega)]
      congr 1
      rw [List.getElem?_eq_getElem (by omega)] at hy
      exact Option.some.inj hy
    have ih := SameTexts_loop a b hl ha d (i + 1) (by omega) (by omega)
    refine Ev.step (fun k => abugidaref02_SameTexts.l0.eq_2 ..) ?_
    refine evI (by omega) ?_
    refine evI (by omega) ?_
    refine evI (by omega) ?_
    rw [rd_some' hx, rd_some' hy]
    by_cases c : x.toList = y.toList
    · refine evI c ?_
      rw [show wrap64 ((i : Int) + 1) = ((i + 1 : Nat) : Int) from w64 (by omega) (by omega)]
      have e := toList_eq.1 c
      subst e
      rw [hxe, hye, show decide (x :: a.drop (i + 1) = x :: b.drop (i + 1)) = decide (a.drop (i + 1) = b.drop (i + 1)) from by simp]
      exact ih
    · refine evN c ?_
      rw [hxe, hye, show decide (x :: a.drop (i + 1) = y :: b.drop (i + 1)) = false from decide_eq_false (fun e => c (by injection e with e _; rw [e]))]
      exact Ev.now _
theorem SameTexts_all (a b : List ByteArray) (ha : a.length ≤ 900000) : Ev (fun k => abugidaref02_SameTexts.f k a b) (decide (a = b)) := by
  unfold abugidaref02_SameTexts.f
  by_cases c : (a.length : Int) = (b.length : Int)
  · refine evI c ?_
    exact SameTexts_loop a b (by omega) ha a.length 0 (by omega) (by omega)
  · refine evN c ?_
    rw [show decide (a = b) = false from decide_eq_false (fun e => c (by rw [e]))]
    exact Ev.now _
theorem SameTexts_c {w : World} {A B : Option Addr} {ca cb : Nat} {a b : List ByteArray} (hA : Kd.C Kd.string w A a.length a) (hca : a.length ≤ ca) (hB : Kd.C Kd.string w B b.length b) (hcb : b.length ≤ cb) (hl : a.length ≤ 900000) : Calls Try.prog 21 #[.slice A a.length ca, .slice B b.length cb] w fun e w' => e = .returned (.bool (decide (a = b))) ∧ Below w.heap.size w w' := by
  obtain ⟨k, hk⟩ := (SameTexts_all a b hl).rounds
  refine (abugidaref02_SameTexts.calls k A ca a B cb b _ w hA hca hB hcb hk).mono ?_
  rintro e w' ⟨rfl, hd⟩
  exact ⟨rfl, hd.below⟩
/-- Two rows of texts, as values. -/
theorem SameRows_c {w : World} {b1 b2 : Nat} {Q1 Q2 : Nat → Prop} {u v : Value} {a b : List ByteArray} (hu : Kd.R Kd.string 9 w b1 Q1 u a) (hv : Kd.R Kd.string 9 w b2 Q2 v b) (hl : a.length ≤ 900000) : Calls Try.prog 21 #[u, v] w fun e w' => e = .returned (.bool (decide (a = b))) ∧ Below w.heap.size w w' := by
  obtain ⟨A, ca, rfl⟩ := Kd.R_slice hu
  obtain ⟨B, cb, rfl⟩ := Kd.R_slice hv
  exact SameTexts_c (Kd.R_reads' hu).2.2 (Kd.R_reads' hu).2.1 (Kd.R_reads' hv).2.2 (Kd.R_reads' hv).2.1 hl
def nmI (n : Int) : Nat := ((n % 18446744073709551616) % 9).toNat
def nmK (k : Nat) : ByteArray := strOfNums [97 + (k : Int)]
theorem nmK_size (k : Nat) : (nmK k).size = 1 := by unfold nmK; rw [strOfNums_size]; rfl
theorem nm_conv (W : World) (v : Int) : (convert 83 9 (.slice (some ⟨W.heap.size, 0, none⟩) 1 1)).run Try.prog (W.alloc (.cells #[.int .u8 v] 5 (0, 0))) = .ok (.string (strOfNums [v])) (W.alloc (.cells #[.int .u8 v] 5 (0, 0))) :=
  run_convert_bytes_arg _ _ _ Try.underlying83 Try.underlying5 W.heap.size 0 1 1 [v] rfl (fun i hi => by
    have : i = 0 := by omega
    subst this
    exact ckA (blk_new W _) 0 _ rfl) _ Try.underlying9
theorem nmI_u64 (n : Int) : (97 + (IntKind.u64.wrap n).tmod 9) % 256 = 97 + (nmI n : Int) := by
  have e : IntKind.u64.wrap n = n % 18446744073709551616 := by
    simp [IntKind.wrap, IntKind.bits, IntKind.signed]
  rw [e, Int.tmod_eq_emod_of_nonneg (by omega)]
  unfold nmI
  omega
set_option maxRecDepth 100000 in
theorem name_c (n : Int) (w : World) : Calls Try.prog 12 #[.int .i64 n] w fun e w' => e = .returned (.string (nmK (nmI n))) ∧ Below w.heap.size w w' := by
  have hv := nm_conv w ((97 + (IntKind.u64.wrap n).tmod 9) % 256)
  go_enter Try.func12, Try.ntmps12
  go_wp2
  go_ret
  refine ⟨?_, below_alloc (Below.refl _ _) _⟩
  rw [nmI_u64]
  rfl
def rcEq (a b : Rc) : Bool := a.x == b.x && (a.y == b.y && (a.w == b.w && a.h == b.h))
set_option maxRecDepth 100000 in
theorem eqRc (a b : Rc) (w : World) : (binOp .eql 43 (rcV a) (rcV b)).run Try.prog w = .ok (.bool (rcEq a b)) w := by
  have hu43 := Try.underlying43
  obtain ⟨a1, a2, a3, a4⟩ := a
  obtain ⟨b1, b2, b3, b4⟩ := b
  unfold rcEq rcV
  go_simp
  by_cases h0 : a1 = b1
  · by_cases h1 : a2 = b2
    · by_cases h2 : a3 = b3
      · by_cases h3 : a4 = b4
        · simp [h0, h1, h2, h3]
        · simp [h0, h1, h2, h3]
      · simp [h0, h1, h2]
    · simp [h0, h1]
  · simp [h0]
set_option maxRecDepth 100000 in
theorem lies_c {w : World} {g W H N : Nat} {L : List En} {Q : Nat → Prop} (h : AtIs w g W H N L Q) (nm : ByteArray) (hn : nm.size ≤ 9223372036854775807) (x y a b : Int) : Calls Try.prog 30 #[.pointer (some ⟨g, 0, none⟩), .string nm, .int .i64 x, .int .i64 y, .int .i64 a, .int .i64 b] w fun e w' => e = .returned (.bool ((rectP L nm).2 && rcEq (rectP L nm).1 ⟨x, y, a, b⟩)) ∧ Below w.heap.size w w' := by
  have HA := Lib.hid h
  have HN := Lib.hid hn
  have ec := fun w => eqRc (rectP L nm).1 ⟨x, y, a, b⟩ w
  generalize hr : rectP L nm = r at ec ⊢
  have HR := Lib.hid hr
  obtain ⟨⟨r1, r2, r3, r4⟩, ok⟩ := r
  clear h hn hr
  unfold rcV at ec
  dsimp only at ec ⊢
  go_enter Try.func30, Try.ntmps30
  go_upto_region 2 with (go_at_call 16; with_reducible refine (Rect_at HA.out nm HN.out).mono ?_; rintro e wx ⟨rfl, hbx⟩; have HBX := Lib.hid hbx; rw [HR.out]; clear hbx; unfold rcV; dsimp only)
  cases ok with
  | false =>
    go_wp2
    go_ret
    exact ⟨rfl, HBX.out.trans ((below_alloc (Below.refl _ _) _).mono HBX.out.size)⟩
  | true =>
    go_wp2
    go_ret
    exact ⟨rfl, HBX.out.trans ((below_alloc (Below.refl _ _) _).mono HBX.out.size)⟩
end Go.Proofs.Ytoleencecfjcjaa.At

/- Bitmaps that are built row by row. -/
set_option linter.unusedVariables false
set_option linter.unusedSimpArgs false
namespace Go.Proofs.Ytoleencecfjcjaa.At
open Go.RowKit Go.Proofs.YtoleencecfjcjaaW.PrintWords Go.Proofs.YtoleencecfjcjaaW.PrintLast Go.Proofs.YtoleencecfjcjaaW.PrintMore Go.Proofs.Ytoleencecfjcjaa.Rng
def wrC : Array Value → Nat → List Value → Array Value
  | cs, _, [] => cs
  | cs, o, v :: vs => wrC (cs.setIfInBounds o v) (o + 1) vs
theorem setCells_blk {b : Nat} {T : TypeId} : ∀ (vs : List Value) (o : Nat) (w : World) (cs : Array Value), w.heap[b]? = some (.cells cs T (0, 0)) → (w.setCells b o vs).heap[b]? = some (.cells (wrC cs o vs) T (0, 0))
  | [], _, _, _, h => h
  | v :: vs, o, w, cs, h => setCells_blk vs (o + 1) _ _ (by
    have : (w.setCell ⟨b, o, none⟩ v).heap[b]? = (w.heap[b]?).map (fun | .cells c e f => .cells (c.setIfInBounds o v) e f | o => o) := by
      simp [World.setCell, Array.getElem?_modify]
      rfl
    rw [this, h]
    rfl)
theorem setCells_other {b k : Nat} (hk : k ≠ b) : ∀ (vs : List Value) (o : Nat) (w : World), (w.setCells b o vs).heap[k]? = w.heap[k]?
  | [], _, _ => rfl
  | v :: vs, o, w => (setCells_other hk vs (o + 1) _).trans (Below.heap_setCell w ⟨b, o, none⟩ v k hk)
theorem wrC_size : ∀ (vs : List Value) (o : Nat) (cs : Array Value), (wrC cs o vs).size = cs.size
  | [], _, _ => rfl
  | v :: vs, o, cs => (wrC_size vs (o + 1) _).trans (by simp)
theorem wrC_get : ∀ (vs : List Value) (o : Nat) (cs : Array Value) (j : Nat), j < cs.size → (wrC cs o vs)[j]? = if o ≤ j ∧ j < o + vs.length then vs[j - o]? else cs[j]?
  | [], o, cs, j, _ => by rw [wrC, if_neg (by simp)]
  | v :: vs, o, cs, j, hj => by
    rw [wrC, wrC_get vs (o + 1) _ j (by simpa using hj)]
    by_cases h1 : o + 1 ≤ j ∧ j < o + 1 + vs.length
    · rw [if_pos h1, if_pos (by simp only [List.length_cons]; omega), show j - o = (j - (o + 1)) + 1 from by omega, List.getElem?_cons_succ]
    · rw [if_neg h1]
      by_cases h2 : j = o
      · subst h2
        rw [if_pos (by simp only [List.length_cons]; omega)]
        simp [hj]
      · rw [if_neg (by simp only [List.length_cons]; omega), Array.getElem?_setIfInBounds_ne (Ne.symm h2)]
theorem setCells_full {b : Nat} {T : TypeId} {w : World} {cs : Array Value} (A : Array Value) (h : w.heap[b]? = some (.cells cs T (0, 0))) (hs : cs.size = A.size) : (w.setCells b 0 A.toList).heap[b]? = some (.cells A T (0, 0)) := by
  rw [setCells_blk A.toList 0 w cs h]
  congr 2
  apply Array.ext_getElem?
  intro j
  by_cases hj : j < cs.size
  · rw [wrC_get _ _ _ _ hj, if_pos (by simp; omega)]
    simp
  · rw [Array.getElem?_eq_none (by rw [wrC_size]; omega), Array.getElem?_eq_none (by omega)]
theorem there_blk {w : World} {D n : Nat} {cs : Array Value} {T : TypeId} (h : w.heap[D]? = some (.cells cs T (0, 0))) (hn : cs.size = n) : w.there D 0 n := fun j hj => by
  have hv : cs[j]? = some cs[j] := Array.getElem?_eq_getElem (by omega)
  rw [Nat.zero_add, ckA h j _ hv]
  exact ⟨rfl, free_of_one h j⟩
theorem below_cells {B b : Nat} {a : World} (hb : B ≤ b) : ∀ (vs : List Value) (o : Nat) (w : World), Below B a w → Below B a (w.setCells b o vs)
  | [], _, _, h => h
  | v :: vs, o, w, h => below_cells hb vs (o + 1) _ (h.setCell (p := ⟨b, o, none⟩) hb v)
theorem oneBm {a b c d : Int} {A : Option Addr} {n m : Nat} : (#[Value.int .i64 a, .int .i64 b, .int .i64 c, .int .i64 d, .slice A n m] : Array Value).all (·.oneCell') = true := by simp [Value.oneCell']
/-- A bitmap in block G, the last block of W0, whose rows grow. -/
structure BxS (W0 : World) (G : Nat) (l t a b : Int) (v : Value) (xs : List Int) (W : World) : Prop where
  g : W.heap[G]? = some (.cells #[.int .i64 l, .int .i64 t, .int .i64 a, .int .i64 b, v] 38 (0, 0))
  row : Kd.R (Kd.int .u64) 92 W (G + 1) (fun _ => True) v xs
  st : Step (fun k => k = G) W0 W
  top : W0.heap.size = G + 1
theorem BxS.next {W0 W W7 : World} {G : Nat} {l t a b : Int} {v v1 : Value} {xs ys : List Int} (h : BxS W0 G l t a b v xs W) {W5 : World} (hb : Below W.heap.size W W5) (hg : W5.grownBy W7 v.ownBlock) (hat : v1.ownBlock = v.ownBlock ∨ ∃ b, v1.ownBlock = some b ∧ W5.heap.size ≤ b) (hR : Kd.R (Kd.int .u64) 92 W7 (G + 1) (fun _ => True) v1 ys) : BxS W0 G l t a b v1 ys (W7.setCell ⟨G, 4, none⟩ v1) := by
  have hv : ∀ k, v.ownBlock = some k → G + 1 ≤ k := fun k hk => (Ru_lt h.row hk).1
  have hg5 : W5.heap[G]? = _ := blk_below h.g hb
  have hg7 : W7.heap[G]? = some _ := (hg.block G (lt_of_blk hg5) (fun e => by have := hv G e.symm; omega)).trans hg5
  have hs : Step (fun k => k = G) W0 W7 := (h.st.trans (Step.of_below hb (fun k => k = G)) (fun k e => .inl e)).grown hg (fun k e => .inr (by rw [h.top]; exact hv k e))
  refine ⟨cell_setB hg7 4 v1, ?_, hs.setCell (p := ⟨G, 4, none⟩) (.inl rfl) v1, h.top⟩
  have hR' := Kd.R_mono (ok' := fun k => k ≠ G) (Kd.R_bound hR) (fun k hk e => by have h1 := hk.2.1; omega)
  exact Kd.R_mono (Kd.R_far (p := ⟨G, 4, none⟩) hR' (fun k hk => hk) _) (fun _ _ => trivial)
theorem BxS.at7 {W0 W W5 W7 : World} {G : Nat} {l t a b : Int} {v : Value} {xs : List Int} (h : BxS W0 G l t a b v xs W) (hb : Below W.heap.size W W5) (hg : W5.grownBy W7 v.ownBlock) : W7.heap[G]? = some (.cells #[.int .i64 l, .int .i64 t, .int .i64 a, .int .i64 b, v] 38 (0, 0)) := by
  have hg5 : W5.heap[G]? = _ := blk_below h.g hb
  exact (hg.block G (lt_of_blk hg5) (fun e => by have := (Ru_lt h.row e.symm).1; omega)).trans hg5
def boxB (a b : Nat) : Bm := ⟨0, 0, (a : Int), (b : Int), List.replicate b (((2 ^ a : Nat) : Int) - 1)⟩
theorem full_row (a : Nat) (h : a ≤ 63) : IntKind.u64.wrap (IntKind.u64.wrap (2 ^ min a 64) - 1) = ((2 ^ a : Nat) : Int) - 1 := by
  rw [shl_i a (by omega)]
  have h1 : 2 ^ a ≤ 2 ^ 63 := Nat.pow_le_pow_right (by omega) h
  have h2 : 0 < 2 ^ a := Nat.pow_pos (by omega)
  generalize 2 ^ a = x at h1 h2 ⊢
  have h3 : (x : Int) - 1 = ((x - 1 : Nat) : Int) := by omega
  rw [h3]
  simp only [IntKind.wrap, IntKind.bits, IntKind.signed]
  simp
  omega
set_option maxRecDepth 100000 in
set_option maxHeartbeats 4000000 in
theorem box_c (CW CH : Nat) (hW : CW ≤ 63) (hH : CH ≤ 64) (w : World) : Calls Try.prog 29 #[.int .i64 (CW : Int), .int .i64 (CH : Int)] w fun e w' => ∃ v, e = .returned (.agg #[.int .i64 0, .int .i64 0, .int .i64 (CW : Int), .int .i64 (CH : Int), v]) ∧ Kd.R (Kd.int .u64) 92 w' w.heap.size (fun _ => True) v (boxB CW CH).rows ∧ Below w.heap.size w w' := by
  have HN := Lib.hid (show CW ≤ 63 ∧ CH ≤ 64 from ⟨hW, hH⟩)
  obtain ⟨M, hM⟩ : ∃ M : Int, M = ((2 ^ CW : Nat) : Int) - 1 := ⟨_, rfl⟩
  have HF := Lib.hid (show IntKind.u64.wrap (IntKind.u64.wrap (2 ^ min CW 64) - 1) = M from by rw [hM]; exact full_row CW hW)
  unfold boxB
  dsimp only
  rw [← hM]
  clear hM hW hH
  have HG0 := Lib.hid (show ((w.alloc (.cells #[.int .i64 0, .int .i64 0, .int .i64 0, .int .i64 0, .slice none 0 0] 38)).alloc (.cells #[.int .i64 0, .int .i64 0, .int .i64 (CW : Int), .int .i64 (CH : Int), .slice none 0 0] 38)).heap[w.heap.size]? = some (.cells #[.int .i64 0, .int .i64 0, .int .i64 0, .int .i64 0, .slice none 0 0] 38 (0, 0)) from blk_alloc (blk_new w _) _)
  have HB0 := Lib.hid (below_alloc (below_alloc (Below.refl w.heap.size w) (.cells #[.int .i64 0, .int .i64 0, .int .i64 0, .int .i64 0, .slice none 0 0] 38)) (.cells #[.int .i64 0, .int .i64 0, .int .i64 (CW : Int), .int .i64 (CH : Int), .slice none 0 0] 38))
  have HX0 := Lib.hid (show BxS ((w.alloc (.cells #[.int .i64 0, .int .i64 0, .int .i64 0, .int .i64 0, .slice none 0 0] 38)).alloc (.cells #[.int .i64 0, .int .i64 0, .int .i64 (CW : Int), .int .i64 (CH : Int), .slice none 0 0] 38)) (w.heap.size + 1) 0 0 (CW : Int) (CH : Int) (.slice none 0 0) [] ((w.alloc (.cells #[.int .i64 0, .int .i64 0, .int .i64 0, .int .i64 0, .slice none 0 0] 38)).alloc (.cells #[.int .i64 0, .int .i64 0, .int .i64 (CW : Int), .int .i64 (CH : Int), .slice none 0 0] 38)) from ⟨by
      have := blk_new (w.alloc (.cells #[.int .i64 0, .int .i64 0, .int .i64 0, .int .i64 0, .slice none 0 0] 38)) (.cells #[.int .i64 0, .int .i64 0, .int .i64 (CW : Int), .int .i64 (CH : Int), .slice none 0 0] 38)
      rwa [size1 w] at this, Kd.R_nil _ _ _ _ _, Step.refl _ _, by rw [size1, size1]⟩)
  go_enter Try.func29, Try.ntmps29
  go_upto_region 2 with fail
  generalize (w.alloc (.cells #[.int .i64 0, .int .i64 0, .int .i64 0, .int .i64 0, .slice none 0 0] 38)).alloc (.cells #[.int .i64 0, .int .i64 0, .int .i64 (CW : Int), .int .i64 (CH : Int), .slice none 0 0] 38) = W0 at HG0 HB0 HX0 ⊢
  obtain ⟨G, hG⟩ : ∃ G, G = w.heap.size + 1 := ⟨_, rfl⟩
  rw [← hG] at HX0
  simp only [← hG]
  have HG := Lib.hid hG
  clear hG
  go_wp2
  go_loopg [6] (CH + 1) (fun kq v6 w' => ∃ (j : Nat) (v : Value), v6 = .int .i64 (j : Int) ∧ j + kq = CH + 1 ∧ j ≤ CH ∧ BxS W0 G 0 0 (CW : Int) (CH : Int) v (List.replicate j M) w')
  case atStart => exact ⟨0, _, rfl, by omega, by omega, HX0.out⟩
  case round =>
    obtain ⟨j, v, rfl, hj, hjl, hx⟩ := hrel
    have HJ := Lib.hid (show j + gk = CH + 1 ∧ j ≤ CH from ⟨hj, hjl⟩)
    have HX := Lib.hid hx
    clear hj hjl hx
    by_cases c0 : j < CH
    · have d1 : decide ((j : Int) < (CH : Int)) = true := decide_eq_true (by omega)
      have HC := Lib.hid c0
      have HS1 := Lib.hid (show IntKind.i64.wrap ((j : Int) + 1) = ((j + 1 : Nat) : Int) ∧ wrap64 ((j : Int) + 1) = ((j + 1 : Nat) : Int) from by
        have h1 := HN.out.2
        have h2 := HC.out
        constructor
        · rw [IntKind.wrap_i64]; omega
        · unfold wrap64; omega)
      obtain ⟨n, A, c, rfl⟩ := Ru_slice (Kd.R_lower HX.out.row (Nat.zero_le _))
      clear c0
      cases gk with
      | zero => exact absurd HJ.out (by have := HC.out; omega)
      | succ kk =>
        go_upto_region 5 with fail
        have HXd := Lib.hid (below_drew (Below.refl wr.heap.size wr))
        have s0 : wr.drew.cell? ⟨G, 4, none⟩ = some (.slice A n c) := ckA HX.out.g 4 _ rfl
        refine start_ (n := 9) (S := fun w' => w'.cell? ⟨G, 4, none⟩ = some (.slice A n c)) (ds := [6, 8]) #[false, false, false, false, false, false, false, false, false] (by kernel_rfl) rfl rfl (s0) (fun hHeld => ?_)
        generalize wr.drew = wd at HXd s0 hHeld ⊢; have LG := Lib.hid (show G < wd.heap.size from World.block_lt_of_cell? _ _ s0)
        refine pure_ (i := 0) (N := some 15) (v := ?_) (a' := ?_) #[true, false, false, false, false, false, false, false, false] rfl rfl (by kernel_rfl) (fun _ _ _ h => h) (Or.inl ⟨by rfl, ?_⟩) ?_ ?_
        rotate_left
        · intro w'
          go_simp
          with_reducible rfl
        rotate_left
        · simp only [Act.put, List.setIfInBounds_toArray, List.set_cons_zero, List.set_cons_succ, i64_w, i32_w]
          rfl
        refine pure_ (i := 2) (N := some 17) (v := ?_) (a' := ?_) #[true, false, true, false, false, false, false, false, false] rfl rfl (by kernel_rfl) (fun _ _ _ h => h) (Or.inl ⟨by rfl, ?_⟩) ?_ ?_
        rotate_left
        · intro w'
          go_simp
          with_reducible rfl
        rotate_left
        · simp only [Act.put, List.setIfInBounds_toArray, List.set_cons_zero, List.set_cons_succ, i64_w, i32_w]
          rfl
        refine pure_ (i := 3) (N := some 18) (v := ?_) (a' := ?_) #[true, false, true, true, false, false, false, false, false] rfl rfl (by kernel_rfl) (fun _ _ _ h => h) (Or.inl ⟨by rfl, ?_⟩) ?_ ?_
        rotate_left
        · intro w'
          go_simp
          with_reducible rfl
        rotate_left
        · simp only [Act.put, List.setIfInBounds_toArray, List.set_cons_zero, List.set_cons_succ, i64_w, i32_w]
          rfl
        refine pure_ (i := 4) (N := some 19) (v := ?_) (a' := ?_) #[true, false, true, true, true, false, false, false, false] rfl rfl (by kernel_rfl) (fun _ _ _ h => h) (Or.inl ⟨by rfl, ?_⟩) ?_ ?_
        rotate_left
        · intro w'
          go_simp
          with_reducible rfl
        rotate_left
        · simp only [Act.put, List.setIfInBounds_toArray, List.set_cons_zero, List.set_cons_succ, i64_w, i32_w]
          rfl
        refine take_ (i := 1) (N := some 16) (v := ?_) (a' := ?_) #[true, true, true, true, true, false, false, false, false] rfl rfl (by kernel_rfl) (fun _ _ _ h => h) (Or.inl ⟨by rfl, ?_⟩) hHeld ?_ ?_
        rotate_left
        · intro w' s0
          go_simp
          with_reducible rfl
        rotate_left
        · simp only [Act.put, List.setIfInBounds_toArray, List.set_cons_zero, List.set_cons_succ, i64_w, i32_w]
          rfl
        refine one_ (i := 5) (N := some 20) #[true, true, true, true, true, true, false, false, false] rfl rfl (by kernel_rfl) (by decide) (fun K hK => ?_)
        refine value_ (w1 := ?_) (v := ?_) (by rfl) rfl ?_ ?_
        rotate_left 2
        · go_simp
          constructor
          · rfl
          · rfl
        refine hK.out _ _ ((cell_alloc LG.out).trans s0) (fun hHeld => ?_)
        clear hK K
        refine norm_ (a' := ?_) ?_ ?_
        rotate_left
        · show Act.put _ (some 20) _ = _
          simp only [Act.put, List.setIfInBounds_toArray, List.set_cons_zero, List.set_cons_succ, i64_w, i32_w]
          rfl
        refine last_ (i := 6) (N := some 21) #[true, true, true, true, true, true, true, false, false] rfl rfl (by kernel_rfl) (by decide) (fun K hK => ?_)
        have HXl := Lib.hid (Kd.R_step (w1 := wd.alloc (.cells #[.int .u64 (IntKind.u64.wrap (IntKind.u64.wrap (2 ^ min CW 64) - 1))] 92 (0, 0))) HX.out.row (fun k hk hlt => (below_alloc HXd.out _).block k hlt))
        refine append_at_step (Kd.int .u64) (G + 1) (by rfl) (.tmp 16) (.tmp 20) 36 92 (.int .u64 0) 8 rfl undU infoU rfl (by decide) (by omega) (.slice A n c) (List.replicate j M) (IntKind.u64.wrap (IntKind.u64.wrap (2 ^ min CW 64) - 1)) [.int .u64 (IntKind.u64.wrap (IntKind.u64.wrap (2 ^ min CW 64) - 1))] wd.heap.size (fun _ => True) (fun _ => False) rfl rfl rfl (fun _ hk => hk.elim) (fun _ _ => trivial) (blk_new wd _) HXl.out (by have h1 := LG.out; rw [size1]; omega) (by have h1 := HJ.out; have h2 := HN.out; rw [List.length_replicate]; omega) ?_
        intro v9 w9 ho9 hg9 hat9
        refine hK.out _ _ ?_
        clear hK K
        refine norm_ (a' := ?_) ?_ ?_
        rotate_left
        · show Act.put _ (some 21) _ = _
          simp only [Act.put, List.setIfInBounds_toArray, List.set_cons_zero, List.set_cons_succ, i64_w, i32_w]
          rfl
        refine pure_ (i := 7) (N := some 22) (v := ?_) (a' := ?_) #[true, true, true, true, true, true, true, true, false] rfl rfl (by kernel_rfl) (fun _ _ _ h => h) (Or.inl ⟨by rfl, ?_⟩) ?_ ?_
        rotate_left
        · intro w'
          go_simp
          with_reducible rfl
        rotate_left
        · simp only [Act.put, List.setIfInBounds_toArray, List.set_cons_zero, List.set_cons_succ, i64_w, i32_w]
          rfl
        refine last_ (i := 8) (N := none) #[true, true, true, true, true, true, true, true, true] rfl rfl (by kernel_rfl) (by decide) (fun K hK => ?_)
        obtain ⟨A9, k9, rfl⟩ := Kd.R_slice ho9
        have HBa := Lib.hid (below_alloc HXd.out (.cells #[.int .u64 (IntKind.u64.wrap (IntKind.u64.wrap (2 ^ min CW 64) - 1))] 92 (0, 0)))
        have g29 := HX.out.at7 HBa.out hg9
        have c29 := ckA g29 4 _ rfl
        have f29 := free_of_one g29 4
        refine skip_ (w1 := ?_) (by rfl) rfl ?_ ?_
        rotate_left
        · go_simp
          rfl
        refine hK.out _ _ ?_
        clear hK K
        refine done_ (by kernel_rfl) ?_
        clear hHeld s0
        have HO9 := Lib.hid ho9
        have HG9 := Lib.hid hg9
        have HA9 := Lib.hid hat9
        clear ho9 hg9 hat9 c29 f29 g29
        go_wp2
        go_roundg kk
        case measure => omega
        case rel =>
          have h1 := HX.out.next HBa.out HG9.out HA9.out HO9.out
          rw [HF.out] at h1
          rw [← List.replicate_succ', List.length_replicate] at h1
          refine ⟨j + 1, _, by first | rfl | rw [HS1.out.2], by have := HJ.out; omega, HC.out, h1⟩
    · have d1 : decide ((j : Int) < (CH : Int)) = false := decide_eq_false (by omega)
      have hje : j = CH := by have := HJ.out; omega
      subst hje
      clear c0
      obtain ⟨n, A, c, rfl⟩ := Ru_slice (Kd.R_lower HX.out.row (Nat.zero_le _))
      have HR0 := Lib.hid ((HX.out.st.1.2 w.heap.size (by rw [HX.out.top, HG.out]; omega) (by rw [HG.out]; omega)).trans HG0.out)
      go_wp2_with (first
        | (refine wpList_load_mid rfl 38 (.tmp 5) rfl G 0 rfl (#[.int .i64 0, .int .i64 0, .int .i64 (CW : Int), .int .i64 (j : Int), .slice A n c] : Array Value).toList _ (rangeAt_blk HX.out.g) Try.underlying38 rfl (inf5 rfl) ?_)
        | (refine wpList_store_mid rfl 38 (.tmp 4) (.tmp 23) rfl w.heap.size 0 #[.int .i64 0, .int .i64 0, .int .i64 (CW : Int), .int .i64 (j : Int), .slice A n c] rfl rfl (there_blk HR0.out rfl) (inf5 rfl) oneBm ?_))
      have HE := Lib.hid (setCells_full #[.int .i64 0, .int .i64 0, .int .i64 (CW : Int), .int .i64 (j : Int), .slice A n c] HR0.out rfl)
      refine bodyPost_ret (results_cell_row rfl _ _ w.heap.size 38 #[.int .i64 0, .int .i64 0, .int .i64 (CW : Int), .int .i64 (j : Int), .slice A n c] (0, 0) _ rfl HE.out Try.underlying38 rfl (inf5 rfl)) rfl ?_
      have hg := HG.out
      have hst := HX.out.st.below (B := w.heap.size) (fun k e => by subst e; omega) HB0.out.size
      refine ⟨_, rfl, ?_, below_cells (Nat.le_refl _) _ _ _ (HB0.out.trans (hst.mono (Nat.le_refl _)))⟩
      have hR := Kd.R_mono (ok' := fun k => G + 1 ≤ k) (Kd.R_bound HX.out.row) (fun k hk => hk.2.1)
      exact Kd.R_mono (Kd.R_lower (Kd.R_step hR (fun k hk hlt => setCells_other (by omega) _ _ _)) (by omega)) (fun _ _ => trivial)
end Go.Proofs.Ytoleencecfjcjaa.At

/- Bitmaps from numbers. -/
set_option linter.unusedVariables false
set_option linter.unusedSimpArgs false
namespace Go.Proofs.Ytoleencecfjcjaa.At
open Go.RowKit Go.Proofs.YtoleencecfjcjaaW.PrintWords Go.Proofs.YtoleencecfjcjaaW.PrintLast Go.Proofs.YtoleencecfjcjaaW.PrintMore Go.Proofs.Ytoleencecfjcjaa.Rng
def mW (q : Int) : Nat := 1 + ((q.tmod 12 + 12).tmod 12).toNat
def mH (q : Int) : Nat := 1 + ((q.tmod 8 + 8).tmod 8).toNat
def mR (q : Int) (CW i : Nat) : Int := Go.bits .and .u64 (IntKind.u64.wrap (q / 2 ^ min i 64)) (IntKind.u64.wrap (IntKind.u64.wrap (2 ^ min CW 64) - 1))
def madeB (q0 q1 q2 : Int) : Bm := if q0.tmod 11 = 10 then b0 else ⟨q2.tmod 7, q2.tmod 5, (mW q0 : Nat), (mH q1 : Nat), (List.range (mH q1)).map (mR q2 (mW q0))⟩
theorem tm (q : Int) (n : Int) (hn : 0 < n) : -n < q.tmod n ∧ q.tmod n < n := by
  have h1 := Int.tmod_lt_of_pos q hn
  have h2 := Int.tmod_lt_of_pos (-q) hn
  rw [Int.neg_tmod] at h2
  omega
theorem mW_le (q : Int) : 1 ≤ mW q ∧ mW q ≤ 12 := by
  have h1 := tm q 12 (by omega)
  have h2 := tm (q.tmod 12 + 12) 12 (by omega)
  unfold mW
  omega
theorem mH_le (q : Int) : 1 ≤ mH q ∧ mH q ≤ 8 := by
  have h1 := tm q 8 (by omega)
  have h2 := tm (q.tmod 8 + 8) 8 (by omega)
  unfold mH
  omega
theorem mW_eq (q : Int) : ∃ d e : Int, q.tmod 12 = d ∧ IntKind.i64.wrap (d + 12) = e ∧ wrap64 (d + 12) = e ∧ ∃ f : Nat, e.tmod 12 = (f : Int) ∧ IntKind.i64.wrap (1 + (f : Int)) = (mW q : Int) ∧ wrap64 (1 + (f : Int)) = (mW q : Int) := by
  have h1 := tm q 12 (by omega)
  have h3 : 0 ≤ (q.tmod 12 + 12).tmod 12 := Int.tmod_nonneg _ (by omega)
  have h2 := tm (q.tmod 12 + 12) 12 (by omega)
  refine ⟨_, _, rfl, rfl, ?_, ((q.tmod 12 + 12).tmod 12).toNat, ?_, ?_, ?_⟩
  · rw [IntKind.wrap_i64]; unfold wrap64; omega
  · rw [show IntKind.i64.wrap (q.tmod 12 + 12) = q.tmod 12 + 12 from by rw [IntKind.wrap_i64]; omega]; omega
  · rw [IntKind.wrap_i64]; unfold mW; omega
  · unfold wrap64 mW; omega
theorem mH_eq (q : Int) : ∃ d e : Int, q.tmod 8 = d ∧ IntKind.i64.wrap (d + 8) = e ∧ wrap64 (d + 8) = e ∧ ∃ f : Nat, e.tmod 8 = (f : Int) ∧ IntKind.i64.wrap (1 + (f : Int)) = (mH q : Int) ∧ wrap64 (1 + (f : Int)) = (mH q : Int) := by
  have h1 := tm q 8 (by omega)
  have h3 : 0 ≤ (q.tmod 8 + 8).tmod 8 := Int.tmod_nonneg _ (by omega)
  have h2 := tm (q.tmod 8 + 8) 8 (by omega)
  refine ⟨_, _, rfl, rfl, ?_, ((q.tmod 8 + 8).tmod 8).toNat, ?_, ?_, ?_⟩
  · rw [IntKind.wrap_i64]; unfold wrap64; omega
  · rw [show IntKind.i64.wrap (q.tmod 8 + 8) = q.tmod 8 + 8 from by rw [IntKind.wrap_i64]; omega]; omega
  · rw [IntKind.wrap_i64]; unfold mH; omega
  · unfold wrap64 mH; omega
theorem mR_range (q : Int) (CW i : Nat) (h : CW ≤ 63) : 0 ≤ mR q CW i ∧ mR q CW i < ((2 ^ CW : Nat) : Int) := by
  unfold mR
  rw [full_row CW h]
  have h2 : 0 < 2 ^ CW := Nat.pow_pos (by omega)
  have h3 : 2 ^ CW ≤ 2 ^ 63 := Nat.pow_le_pow_right (by omega) h
  generalize 2 ^ CW = x at h2 h3
  have e : ((x : Nat) : Int) - 1 = ((x - 1 : Nat) : Int) := by omega
  rw [e]
  generalize IntKind.u64.wrap (q / 2 ^ min i 64) = y
  have h : ((BitVec.ofInt 64 y) &&& (BitVec.ofInt 64 ((x - 1 : Nat) : Int))).toNat ≤ x - 1 := by
    rw [BitVec.toNat_and, BitVec.ofInt_natCast, BitVec.toNat_ofNat, Nat.mod_eq_of_lt (a := x - 1) (by omega)]
    exact Nat.and_le_right
  show 0 ≤ IntKind.u64.wrap ((((BitVec.ofInt 64 y) &&& (BitVec.ofInt 64 ((x - 1 : Nat) : Int))).toNat : Nat) : Int) ∧ IntKind.u64.wrap ((((BitVec.ofInt 64 y) &&& (BitVec.ofInt 64 ((x - 1 : Nat) : Int))).toNat : Nat) : Int) < _
  generalize ((BitVec.ofInt 64 y) &&& (BitVec.ofInt 64 ((x - 1 : Nat) : Int))).toNat = z at h ⊢
  simp only [IntKind.wrap, IntKind.bits, IntKind.signed]
  simp
  omega
theorem madeB_rows (q0 q1 q2 : Int) : (madeB q0 q1 q2).rows.length ≤ 8 ∧ ∀ x ∈ (madeB q0 q1 q2).rows, 0 ≤ x ∧ x ≤ 18446744073709551615 := by
  unfold madeB
  split
  · exact ⟨by simp [b0], fun x hx => absurd hx (by simp [b0])⟩
  · refine ⟨by simp only [List.length_map, List.length_range]; exact (mH_le q1).2, fun x hx => ?_⟩
    obtain ⟨i, _, rfl⟩ := List.mem_map.1 hx
    have h1 := mR_range q2 (mW q0) i (by have := mW_le q0; omega)
    have h2 : 2 ^ (mW q0) ≤ 2 ^ 63 := Nat.pow_le_pow_right (by omega) (by have := mW_le q0; omega)
    generalize 2 ^ mW q0 = y at h1 h2
    omega
set_option maxRecDepth 100000 in
set_option maxHeartbeats 4000000 in
theorem Made_c (q0 q1 q2 : Int) (w : World) : Calls Try.prog 19 #[.agg #[.int .i64 q0, .int .i64 q1, .int .i64 q2]] w fun e w' => ∃ v, e = .returned (.agg #[.int .i64 (madeB q0 q1 q2).l, .int .i64 (madeB q0 q1 q2).t, .int .i64 (madeB q0 q1 q2).w, .int .i64 (madeB q0 q1 q2).h, v]) ∧ Kd.R (Kd.int .u64) 92 w' w.heap.size (fun _ => True) v (madeB q0 q1 q2).rows ∧ Below w.heap.size w w' := by
  have HQ := Lib.hid (show ((w.alloc (.cells #[.int .i64 q0, .int .i64 q1, .int .i64 q2] 31 (0, 0))).alloc (.cells #[.int .i64 0, .int .i64 0, .int .i64 0, .int .i64 0, .slice none 0 0] 38 (0, 0))).heap[w.heap.size]? = some (.cells #[.int .i64 q0, .int .i64 q1, .int .i64 q2] 31 (0, 0)) from blk_alloc (blk_new w _) _)
  have q_0 := ckA HQ.out 0 _ rfl
  have q_1 := ckA HQ.out 1 _ rfl
  have q_2 := ckA HQ.out 2 _ rfl
  by_cases c0 : q0.tmod 11 = 10
  · have d0 : ((q0.tmod 11) == 10) = true := beq_iff_eq.2 c0
    unfold madeB
    rw [if_pos c0]
    unfold b0
    dsimp only
    clear c0
    have HZ := Lib.hid (show ((w.alloc (.cells #[.int .i64 q0, .int .i64 q1, .int .i64 q2] 31 (0, 0))).alloc (.cells #[.int .i64 0, .int .i64 0, .int .i64 0, .int .i64 0, .slice none 0 0] 38 (0, 0))).heap[w.heap.size + 1]? = some (.cells #[.int .i64 0, .int .i64 0, .int .i64 0, .int .i64 0, .slice none 0 0] 38 (0, 0)) from by
      have := blk_new (w.alloc (.cells #[.int .i64 q0, .int .i64 q1, .int .i64 q2] 31 (0, 0))) (.cells #[.int .i64 0, .int .i64 0, .int .i64 0, .int .i64 0, .slice none 0 0] 38 (0, 0))
      rwa [size1 w] at this)
    go_enter Try.func19, Try.ntmps19
    go_wp2_with (refine wpList_store_mid rfl 38 (.tmp 2) (.tmp 11) rfl (w.heap.size + 1) 0 #[.int .i64 0, .int .i64 0, .int .i64 0, .int .i64 0, .slice none 0 0] rfl rfl (there_blk HZ.out rfl) (inf5 rfl) oneBm ?_)
    have HE := Lib.hid (setCells_full #[.int .i64 0, .int .i64 0, .int .i64 0, .int .i64 0, .slice none 0 0] HZ.out rfl)
    refine bodyPost_ret (results_cell_row rfl _ _ (w.heap.size + 1) 38 #[.int .i64 0, .int .i64 0, .int .i64 0, .int .i64 0, .slice none 0 0] (0, 0) _ rfl HE.out Try.underlying38 rfl (inf5 rfl)) rfl ?_
    exact ⟨_, rfl, Kd.R_nil _ _ _ _ _, below_cells (Nat.le_succ _) _ _ _ (below_alloc (below_alloc (Below.refl _ _) _) _)⟩
  · have d0 : ((q0.tmod 11) == 10) = false := beq_eq_false_iff_ne.2 c0
    obtain ⟨d, e, i1, i2, i3, f, i4, i5, i6⟩ := mW_eq q0
    obtain ⟨d_, e_, j1, j2, j3, f_, j4, j5, j6⟩ := mH_eq q1
    unfold madeB
    rw [if_neg c0]
    dsimp only
    have hCH := (mH_le q1).2
    generalize mW q0 = CW at i5 i6 ⊢
    generalize mH q1 = CH at j5 j6 hCH ⊢
    clear c0
    have HN := Lib.hid (show CH ≤ 8 from hCH)
    clear hCH
    have HQ3 := Lib.hid (show (((w.alloc (.cells #[.int .i64 q0, .int .i64 q1, .int .i64 q2] 31 (0, 0))).alloc (.cells #[.int .i64 0, .int .i64 0, .int .i64 0, .int .i64 0, .slice none 0 0] 38 (0, 0))).alloc (.cells #[.int .i64 (q2.tmod 7), .int .i64 (q2.tmod 5), .int .i64 (CW : Int), .int .i64 (CH : Int), .slice none 0 0] 38 (0, 0))).heap[w.heap.size]? = some (.cells #[.int .i64 q0, .int .i64 q1, .int .i64 q2] 31 (0, 0)) from blk_alloc HQ.out _)
    have HG0 := Lib.hid (show (((w.alloc (.cells #[.int .i64 q0, .int .i64 q1, .int .i64 q2] 31 (0, 0))).alloc (.cells #[.int .i64 0, .int .i64 0, .int .i64 0, .int .i64 0, .slice none 0 0] 38 (0, 0))).alloc (.cells #[.int .i64 (q2.tmod 7), .int .i64 (q2.tmod 5), .int .i64 (CW : Int), .int .i64 (CH : Int), .slice none 0 0] 38 (0, 0))).heap[w.heap.size + 1]? = some (.cells #[.int .i64 0, .int .i64 0, .int .i64 0, .int .i64 0, .slice none 0 0] 38 (0, 0)) from by
      have := blk_alloc (blk_new (w.alloc (.cells #[.int .i64 q0, .int .i64 q1, .int .i64 q2] 31 (0, 0))) (.cells #[.int .i64 0, .int .i64 0, .int .i64 0, .int .i64 0, .slice none 0 0] 38 (0, 0))) (.cells #[.int .i64 (q2.tmod 7), .int .i64 (q2.tmod 5), .int .i64 (CW : Int), .int .i64 (CH : Int), .slice none 0 0] 38 (0, 0))
      rwa [size1 w] at this)
    have HB0 := Lib.hid (below_alloc (below_alloc (below_alloc (Below.refl w.heap.size w) (.cells #[.int .i64 q0, .int .i64 q1, .int .i64 q2] 31 (0, 0))) (.cells #[.int .i64 0, .int .i64 0, .int .i64 0, .int .i64 0, .slice none 0 0] 38 (0, 0))) (.cells #[.int .i64 (q2.tmod 7), .int .i64 (q2.tmod 5), .int .i64 (CW : Int), .int .i64 (CH : Int), .slice none 0 0] 38 (0, 0)))
    have HX0 := Lib.hid (show BxS (((w.alloc (.cells #[.int .i64 q0, .int .i64 q1, .int .i64 q2] 31 (0, 0))).alloc (.cells #[.int .i64 0, .int .i64 0, .int .i64 0, .int .i64 0, .slice none 0 0] 38 (0, 0))).alloc (.cells #[.int .i64 (q2.tmod 7), .int .i64 (q2.tmod 5), .int .i64 (CW : Int), .int .i64 (CH : Int), .slice none 0 0] 38 (0, 0))) (w.heap.size + 1 + 1) (q2.tmod 7) (q2.tmod 5) (CW : Int) (CH : Int) (.slice none 0 0) ((List.range 0).map (mR q2 CW)) (((w.alloc (.cells #[.int .i64 q0, .int .i64 q1, .int .i64 q2] 31 (0, 0))).alloc (.cells #[.int .i64 0, .int .i64 0, .int .i64 0, .int .i64 0, .slice none 0 0] 38 (0, 0))).alloc (.cells #[.int .i64 (q2.tmod 7), .int .i64 (q2.tmod 5), .int .i64 (CW : Int), .int .i64 (CH : Int), .slice none 0 0] 38 (0, 0))) from ⟨by
      have := blk_new ((w.alloc (.cells #[.int .i64 q0, .int .i64 q1, .int .i64 q2] 31 (0, 0))).alloc (.cells #[.int .i64 0, .int .i64 0, .int .i64 0, .int .i64 0, .slice none 0 0] 38 (0, 0))) (.cells #[.int .i64 (q2.tmod 7), .int .i64 (q2.tmod 5), .int .i64 (CW : Int), .int .i64 (CH : Int), .slice none 0 0] 38 (0, 0))
      rwa [size1, size1 w] at this, Kd.R_nil _ _ _ _ _, Step.refl _ _, by rw [size1, size1, size1]⟩)
    go_enter Try.func19, Try.ntmps19
    go_upto_region 6 with fail
    clear q_0 q_1 q_2 HQ i1 i2 i3 i4 i5 i6 j1 j2 j3 j4 j5 j6 d0
    generalize ((w.alloc (.cells #[.int .i64 q0, .int .i64 q1, .int .i64 q2] 31 (0, 0))).alloc (.cells #[.int .i64 0, .int .i64 0, .int .i64 0, .int .i64 0, .slice none 0 0] 38 (0, 0))).alloc (.cells #[.int .i64 (q2.tmod 7), .int .i64 (q2.tmod 5), .int .i64 (CW : Int), .int .i64 (CH : Int), .slice none 0 0] 38 (0, 0)) = W0 at HG0 HB0 HX0 HQ3 ⊢
    obtain ⟨G, hG⟩ : ∃ G, G = w.heap.size + 1 + 1 := ⟨_, rfl⟩
    rw [← hG] at HX0
    simp only [← hG]
    have HG := Lib.hid hG
    clear hG
    go_wp2
    go_loopg [6] (CH + 1) (fun kq v6 w' => ∃ (j : Nat) (v : Value), v6 = .int .i64 (j : Int) ∧ j + kq = CH + 1 ∧ j ≤ CH ∧ BxS W0 G (q2.tmod 7) (q2.tmod 5) (CW : Int) (CH : Int) v ((List.range j).map (mR q2 CW)) w')
    case atStart => exact ⟨0, _, rfl, by omega, by omega, HX0.out⟩
    case round =>
      obtain ⟨j, v, rfl, hj, hjl, hx⟩ := hrel
      have HJ := Lib.hid (show j + gk = CH + 1 ∧ j ≤ CH from ⟨hj, hjl⟩)
      have HX := Lib.hid hx
      clear hj hjl hx
      by_cases c0 : j < CH
      · have d1 : decide ((j : Int) < (CH : Int)) = true := decide_eq_true (by omega)
        have HC := Lib.hid c0
        have HS1 := Lib.hid (show IntKind.i64.wrap ((j : Int) + 1) = ((j + 1 : Nat) : Int) ∧ wrap64 ((j : Int) + 1) = ((j + 1 : Nat) : Int) from by
          have h1 := HN.out
          have h2 := HC.out
          constructor
          · rw [IntKind.wrap_i64]; omega
          · unfold wrap64; omega)
        obtain ⟨n, A, c, rfl⟩ := Ru_slice (Kd.R_lower HX.out.row (Nat.zero_le _))
        clear c0
        cases gk with
        | zero => exact absurd HJ.out (by have := HC.out; omega)
        | succ kk =>
          go_upto_region 9 with fail
          have s1 : wr.drew.cell? ⟨w.heap.size, 2, none⟩ = some (.int .i64 q2) := ckA ((HX.out.st.1.2 w.heap.size (by rw [HX.out.top, HG.out]; omega) (by rw [HG.out]; omega)).trans HQ3.out) 2 _ rfl
          have HXd := Lib.hid (below_drew (Below.refl wr.heap.size wr))
          have s0 : wr.drew.cell? ⟨G, 4, none⟩ = some (.slice A n c) := ckA HX.out.g 4 _ rfl
          refine start_ (n := 15) (S := fun w' => w'.cell? ⟨G, 4, none⟩ = some (.slice A n c) ∧ w'.cell? ⟨w.heap.size, 2, none⟩ = some (.int .i64 q2)) (ds := [12, 14]) #[false, false, false, false, false, false, false, false, false, false, false, false, false, false, false] (by kernel_rfl) rfl rfl ⟨s0, s1⟩ (fun hHeld => ?_)
          generalize wr.drew = wd at HXd s0 s1 hHeld ⊢; have LG := Lib.hid (show G < wd.heap.size ∧ w.heap.size < wd.heap.size from ⟨World.block_lt_of_cell? _ _ s0, World.block_lt_of_cell? _ _ s1⟩)
          refine pure_ (i := 0) (N := some 38) (v := ?_) (a' := ?_) #[true, false, false, false, false, false, false, false, false, false, false, false, false, false, false] rfl rfl (by kernel_rfl) (fun _ _ _ h => h) (Or.inl ⟨by rfl, ?_⟩) ?_ ?_
          rotate_left
          · intro w'
            go_simp
            with_reducible rfl
          rotate_left
          · simp only [Act.put, List.setIfInBounds_toArray, List.set_cons_zero, List.set_cons_succ, i64_w, i32_w]
            rfl
          refine pure_ (i := 2) (N := some 40) (v := ?_) (a' := ?_) #[true, false, true, false, false, false, false, false, false, false, false, false, false, false, false] rfl rfl (by kernel_rfl) (fun _ _ _ h => h) (Or.inl ⟨by rfl, ?_⟩) ?_ ?_
          rotate_left
          · intro w'
            go_simp
            with_reducible rfl
          rotate_left
          · simp only [Act.put, List.setIfInBounds_toArray, List.set_cons_zero, List.set_cons_succ, i64_w, i32_w]
            rfl
          refine pure_ (i := 4) (N := some 42) (v := ?_) (a' := ?_) #[true, false, true, false, true, false, false, false, false, false, false, false, false, false, false] rfl rfl (by kernel_rfl) (fun _ _ _ h => h) (Or.inl ⟨by rfl, ?_⟩) ?_ ?_
          rotate_left
          · intro w'
            go_simp
            with_reducible rfl
          rotate_left
          · simp only [Act.put, List.setIfInBounds_toArray, List.set_cons_zero, List.set_cons_succ, i64_w, i32_w]
            rfl
          refine pure_ (i := 7) (N := some 45) (v := ?_) (a' := ?_) #[true, false, true, false, true, false, false, true, false, false, false, false, false, false, false] rfl rfl (by kernel_rfl) (fun _ _ _ h => h) (Or.inl ⟨by rfl, ?_⟩) ?_ ?_
          rotate_left
          · intro w'
            go_simp
            with_reducible rfl
          rotate_left
          · simp only [Act.put, List.setIfInBounds_toArray, List.set_cons_zero, List.set_cons_succ, i64_w, i32_w]
            rfl
          refine pure_ (i := 8) (N := some 46) (v := ?_) (a' := ?_) #[true, false, true, false, true, false, false, true, true, false, false, false, false, false, false] rfl rfl (by kernel_rfl) (fun _ _ _ h => h) (Or.inl ⟨by rfl, ?_⟩) ?_ ?_
          rotate_left
          · intro w'
            go_simp
            with_reducible rfl
          rotate_left
          · simp only [Act.put, List.setIfInBounds_toArray, List.set_cons_zero, List.set_cons_succ, i64_w, i32_w]
            rfl
          refine pure_ (i := 9) (N := some 47) (v := ?_) (a' := ?_) #[true, false, true, false, true, false, false, true, true, true, false, false, false, false, false] rfl rfl (by kernel_rfl) (fun _ _ _ h => h) (Or.inl ⟨by rfl, ?_⟩) ?_ ?_
          rotate_left
          · intro w'
            go_simp
            with_reducible rfl
          rotate_left
          · simp only [Act.put, List.setIfInBounds_toArray, List.set_cons_zero, List.set_cons_succ, i64_w, i32_w]
            rfl
          refine take_ (i := 1) (N := some 39) (v := ?_) (a' := ?_) #[true, true, true, false, true, false, false, true, true, true, false, false, false, false, false] rfl rfl (by kernel_rfl) (fun _ _ _ h => h) (Or.inl ⟨by rfl, ?_⟩) hHeld ?_ ?_
          rotate_left
          · rintro w' ⟨s0, s1⟩
            go_simp
            with_reducible rfl
          rotate_left
          · simp only [Act.put, List.setIfInBounds_toArray, List.set_cons_zero, List.set_cons_succ, i64_w, i32_w]
            rfl
          refine take_ (i := 3) (N := some 41) (v := ?_) (a' := ?_) #[true, true, true, true, true, false, false, true, true, true, false, false, false, false, false] rfl rfl (by kernel_rfl) (fun _ _ _ h => h) (Or.inl ⟨by rfl, ?_⟩) hHeld ?_ ?_
          rotate_left
          · rintro w' ⟨s0, s1⟩
            go_simp
            with_reducible rfl
          rotate_left
          · simp only [Act.put, List.setIfInBounds_toArray, List.set_cons_zero, List.set_cons_succ, i64_w, i32_w]
            rfl
          refine pure_ (i := 5) (N := some 43) (v := ?_) (a' := ?_) #[true, true, true, true, true, true, false, true, true, true, false, false, false, false, false] rfl rfl (by kernel_rfl) (fun _ _ _ h => h) (Or.inl ⟨by rfl, ?_⟩) ?_ ?_
          rotate_left
          · intro w'
            go_simp
            with_reducible rfl
          rotate_left
          · simp only [Act.put, List.setIfInBounds_toArray, List.set_cons_zero, List.set_cons_succ, i64_w, i32_w]
            rfl
          refine pure_ (i := 6) (N := some 44) (v := ?_) (a' := ?_) #[true, true, true, true, true, true, true, true, true, true, false, false, false, false, false] rfl rfl (by kernel_rfl) (fun _ _ _ h => h) (Or.inl ⟨by rfl, ?_⟩) ?_ ?_
          rotate_left
          · intro w'
            go_simp
            with_reducible rfl
          rotate_left
          · simp only [Act.put, List.setIfInBounds_toArray, List.set_cons_zero, List.set_cons_succ, i64_w, i32_w]
            rfl
          refine pure_ (i := 10) (N := some 48) (v := ?_) (a' := ?_) #[true, true, true, true, true, true, true, true, true, true, true, false, false, false, false] rfl rfl (by kernel_rfl) (fun _ _ _ h => h) (Or.inl ⟨by rfl, ?_⟩) ?_ ?_
          rotate_left
          · intro w'
            go_simp
            with_reducible rfl
          rotate_left
          · simp only [Act.put, List.setIfInBounds_toArray, List.set_cons_zero, List.set_cons_succ, i64_w, i32_w]
            rfl
          refine one_ (i := 11) (N := some 49) #[true, true, true, true, true, true, true, true, true, true, true, true, false, false, false] rfl rfl (by kernel_rfl) (by decide) (fun K hK => ?_)
          refine value_ (w1 := ?_) (v := ?_) (by rfl) rfl ?_ ?_
          rotate_left 2
          · go_simp
            constructor
            · rfl
            · rfl
          refine hK.out _ _ ⟨(cell_alloc LG.out.1).trans s0, (cell_alloc LG.out.2).trans s1⟩ (fun hHeld => ?_)
          clear hK K
          refine norm_ (a' := ?_) ?_ ?_
          rotate_left
          · show Act.put _ (some 49) _ = _
            simp only [Act.put, List.setIfInBounds_toArray, List.set_cons_zero, List.set_cons_succ, i64_w, i32_w]
            rfl
          refine last_ (i := 12) (N := some 50) #[true, true, true, true, true, true, true, true, true, true, true, true, true, false, false] rfl rfl (by kernel_rfl) (by decide) (fun K hK => ?_)
          have HXl := Lib.hid (Kd.R_step (w1 := wd.alloc (.cells #[.int .u64 (Go.bits .and .u64 (IntKind.u64.wrap (q2 / 2 ^ min j 64)) (IntKind.u64.wrap (IntKind.u64.wrap (2 ^ min CW 64) - 1)))] 92 (0, 0))) HX.out.row (fun k hk hlt => (below_alloc HXd.out _).block k hlt))
          refine append_at_step (Kd.int .u64) (G + 1) (by rfl) (.tmp 39) (.tmp 49) 36 92 (.int .u64 0) 8 rfl undU infoU rfl (by decide) (by omega) (.slice A n c) ((List.range j).map (mR q2 CW)) (Go.bits .and .u64 (IntKind.u64.wrap (q2 / 2 ^ min j 64)) (IntKind.u64.wrap (IntKind.u64.wrap (2 ^ min CW 64) - 1))) [.int .u64 (Go.bits .and .u64 (IntKind.u64.wrap (q2 / 2 ^ min j 64)) (IntKind.u64.wrap (IntKind.u64.wrap (2 ^ min CW 64) - 1)))] wd.heap.size (fun _ => True) (fun _ => False) rfl rfl rfl (fun _ hk => hk.elim) (fun _ _ => trivial) (blk_new wd _) HXl.out (by have h1 := LG.out.1; rw [size1]; omega) (by have h1 := HJ.out; have h2 := HN.out; rw [List.length_map, List.length_range]; omega) ?_
          intro v9 w9 ho9 hg9 hat9
          refine hK.out _ _ ?_
          clear hK K
          refine norm_ (a' := ?_) ?_ ?_
          rotate_left
          · show Act.put _ (some 50) _ = _
            simp only [Act.put, List.setIfInBounds_toArray, List.set_cons_zero, List.set_cons_succ, i64_w, i32_w]
            rfl
          refine pure_ (i := 13) (N := some 51) (v := ?_) (a' := ?_) #[true, true, true, true, true, true, true, true, true, true, true, true, true, true, false] rfl rfl (by kernel_rfl) (fun _ _ _ h => h) (Or.inl ⟨by rfl, ?_⟩) ?_ ?_
          rotate_left
          · intro w'
            go_simp
            with_reducible rfl
          rotate_left
          · simp only [Act.put, List.setIfInBounds_toArray, List.set_cons_zero, List.set_cons_succ, i64_w, i32_w]
            rfl
          refine last_ (i := 14) (N := none) #[true, true, true, true, true, true, true, true, true, true, true, true, true, true, true] rfl rfl (by kernel_rfl) (by decide) (fun K hK => ?_)
          obtain ⟨A9, k9, rfl⟩ := Kd.R_slice ho9
          have HBa := Lib.hid (below_alloc HXd.out (.cells #[.int .u64 (Go.bits .and .u64 (IntKind.u64.wrap (q2 / 2 ^ min j 64)) (IntKind.u64.wrap (IntKind.u64.wrap (2 ^ min CW 64) - 1)))] 92 (0, 0)))
          have g29 := HX.out.at7 HBa.out hg9
          have c29 := ckA g29 4 _ rfl
          have f29 := free_of_one g29 4
          refine skip_ (w1 := ?_) (by rfl) rfl ?_ ?_
          rotate_left
          · go_simp
            rfl
          refine hK.out _ _ ?_
          clear hK K
          refine done_ (by kernel_rfl) ?_
          clear hHeld s0 s1
          have HO9 := Lib.hid ho9
          have HG9 := Lib.hid hg9
          have HA9 := Lib.hid hat9
          clear ho9 hg9 hat9 c29 f29 g29
          go_wp2
          go_roundg kk
          case measure => omega
          case rel =>
            have h1 := HX.out.next HBa.out HG9.out HA9.out HO9.out
            have e9 : (List.range j).map (mR q2 CW) ++ [(Go.bits .and .u64 (IntKind.u64.wrap (q2 / 2 ^ min j 64)) (IntKind.u64.wrap (IntKind.u64.wrap (2 ^ min CW 64) - 1)))] = (List.range (j + 1)).map (mR q2 CW) := by rw [List.range_succ, List.map_append]; rfl
            rw [e9, List.length_map, List.length_range] at h1
            refine ⟨j + 1, _, by first | rfl | rw [HS1.out.2], by have := HJ.out; omega, HC.out, h1⟩
      · have d1 : decide ((j : Int) < (CH : Int)) = false := decide_eq_false (by omega)
        have hje : j = CH := by have := HJ.out; omega
        subst hje
        clear c0
        obtain ⟨n, A, c, rfl⟩ := Ru_slice (Kd.R_lower HX.out.row (Nat.zero_le _))
        have HR0 := Lib.hid ((HX.out.st.1.2 (w.heap.size + 1) (by rw [HX.out.top, HG.out]; omega) (by rw [HG.out]; omega)).trans HG0.out)
        go_wp2_with (first
          | (refine wpList_load_mid rfl 38 (.tmp 5) rfl G 0 rfl (#[.int .i64 (q2.tmod 7), .int .i64 (q2.tmod 5), .int .i64 (CW : Int), .int .i64 (j : Int), .slice A n c] : Array Value).toList _ (rangeAt_blk HX.out.g) Try.underlying38 rfl (inf5 rfl) ?_)
          | (refine wpList_store_mid rfl 38 (.tmp 2) (.tmp 52) rfl (w.heap.size + 1) 0 #[.int .i64 (q2.tmod 7), .int .i64 (q2.tmod 5), .int .i64 (CW : Int), .int .i64 (j : Int), .slice A n c] rfl rfl (there_blk HR0.out rfl) (inf5 rfl) oneBm ?_))
        have HE := Lib.hid (setCells_full #[.int .i64 (q2.tmod 7), .int .i64 (q2.tmod 5), .int .i64 (CW : Int), .int .i64 (j : Int), .slice A n c] HR0.out rfl)
        refine bodyPost_ret (results_cell_row rfl _ _ (w.heap.size + 1) 38 #[.int .i64 (q2.tmod 7), .int .i64 (q2.tmod 5), .int .i64 (CW : Int), .int .i64 (j : Int), .slice A n c] (0, 0) _ rfl HE.out Try.underlying38 rfl (inf5 rfl)) rfl ?_
        have hg := HG.out
        have hst := HX.out.st.below (B := w.heap.size) (fun k e => by subst e; omega) HB0.out.size
        refine ⟨_, rfl, ?_, below_cells (Nat.le_succ _) _ _ _ (HB0.out.trans (hst.mono (Nat.le_refl _)))⟩
        have hR := Kd.R_mono (ok' := fun k => G + 1 ≤ k) (Kd.R_bound HX.out.row) (fun k hk => hk.2.1)
        exact Kd.R_mono (Kd.R_lower (Kd.R_step hR (fun k hk hlt => setCells_other (by omega) _ _ _)) (by omega)) (fun _ _ => trivial)
end Go.Proofs.Ytoleencecfjcjaa.At

/- An atlas in a law's walk: what it holds, kept beside a base. -/
set_option linter.unusedVariables false
set_option linter.unusedSimpArgs false
namespace Go.Proofs.Ytoleencecfjcjaa.At
open Go.RowKit Go.Proofs.YtoleencecfjcjaaW.PrintWords Go.Proofs.YtoleencecfjcjaaW.PrintLast Go.Proofs.YtoleencecfjcjaaW.PrintMore Go.Proofs.Ytoleencecfjcjaa.Rng
/-- The atlas at g, made behind w0. -/
structure San (w0 w : World) (g W H N : Nat) (L : List En) (Q : Nat → Prop) : Prop where
  at_ : AtIs w g W H N L Q
  ge : ∀ k, Q k → w0.heap.size ≤ k
  b : Below w0.heap.size w0 w
abbrev bmV (b : Bm) (v : Value) : Value := .agg #[.int .i64 b.l, .int .i64 b.t, .int .i64 b.w, .int .i64 b.h, v]
theorem San.below {w0 w w1 : World} {g W H N : Nat} {L : List En} {Q : Nat → Prop} (h : San w0 w g W H N L Q) (hb : Below w.heap.size w w1) : San w0 w1 g W H N L Q :=
  ⟨h.at_.below hb, h.ge, h.b.trans (hb.mono h.b.size)⟩
theorem San.step {w0 w w1 : World} {g W H N M : Nat} {L L1 : List En} {Q Q1 : Nat → Prop} (h : San w0 w g W H N L Q) (hs : Step Q w w1) (ha : AtIs w1 g W H M L1 Q1) (hq : ∀ k, Q1 k → Q k ∨ w.heap.size ≤ k) : San w0 w1 g W H M L1 Q1 :=
  ⟨ha, fun k hk => by
    rcases hq k hk with e | e
    · exact h.ge k e
    · exact Nat.le_trans h.b.size e, h.b.trans (hs.below h.ge h.b.size)⟩
theorem San.new {w : World} (W H : Nat) (hW : 1 ≤ W ∧ W ≤ 128) (hH : 1 ≤ H ∧ H ≤ 128) : Calls Try.prog 10 #[.int .i64 (W : Int), .int .i64 (H : Int)] w fun e w' => ∃ g Q, e = .returned (.pointer (some ⟨g, 0, none⟩)) ∧ San w w' g W H 0 [] Q := by
  refine (New_c W H hW hH w).mono ?_
  rintro e w' ⟨g, Q, rfl, h1, h2, h3⟩
  exact ⟨g, Q, rfl, h1, h3, h2⟩
/-- Put of a bitmap that lies apart. -/
theorem San.put {w0 w w2 : World} {g W H N : Nat} {L : List En} {Q : Nat → Prop} (h : San w0 w g W H N L Q) (hN : N ≤ 900000) (nm : ByteArray) (hnl : nm.size ≤ 9223372036854775807) (b : Bm) {v : Value} (hb : Below w.heap.size w w2) (hR : Kd.R (Kd.int .u64) 92 w2 w.heap.size (fun _ => True) v b.rows) (hr : b.rows.length ≤ 1000 ∧ ∀ x ∈ b.rows, 0 ≤ x ∧ x ≤ 18446744073709551615) :
    Calls Try.prog 18 #[.pointer (some ⟨g, 0, none⟩), .string nm, bmV b v] w2 fun e w' => ∃ A c Q', e = .returned (.tuple #[.slice A (putP W H L nm b).1.length c, .int .i64 (putP W H L nm b).2.1]) ∧ Kd.R Kd.string 9 w' w2.heap.size (fun k => ¬ Q' k) (.slice A (putP W H L nm b).1.length c) (putP W H L nm b).1 ∧ San w0 w' g W H (N + 1) (putP W H L nm b).2.2 Q' ∧ (∀ k, Q' k → Q k ∨ w2.heap.size ≤ k) ∧ Step Q w2 w' := by
  obtain ⟨A, c, rfl⟩ := Kd.R_slice hR
  have hg := h.below hb
  obtain ⟨l0, t0, a0, h0, xs⟩ := b
  refine (Put_at hg.at_ hN nm hnl l0 t0 a0 h0 A xs.length c xs (Kd.R_reads' hR).2.2 (fun ad had hq => ?_) hr.1 hr.2).mono ?_
  · subst had
    have h1 := Ru_own hR
    have h2 := Ru_lt hR h1
    have h3 := h.at_.lt hq
    omega
  · rintro e w' ⟨v1, Q', rfl, h1, h2, h3, h4⟩
    obtain ⟨A1, c1, rfl⟩ := Kd.R_slice h1
    exact ⟨A1, c1, Q', rfl, h1, hg.step h4 h2 h3, h3, h4⟩
theorem San.get {w0 w : World} {g W H N : Nat} {L : List En} {Q : Nat → Prop} (h : San w0 w g W H N L Q) (hN : N ≤ 900000) (nm : ByteArray) (hnl : nm.size ≤ 9223372036854775807) :
    Calls Try.prog 13 #[.pointer (some ⟨g, 0, none⟩), .string nm] w fun e w' => ∃ v, e = .returned (.tuple #[bmV (getB L nm).1 v, .bool (getB L nm).2]) ∧ Kd.R (Kd.int .u64) 92 w' w.heap.size (fun _ => True) v (getB L nm).1.rows ∧ San w0 w' g W H (N + 1) (useP L nm) Q ∧ Step Q w w' := by
  refine (Get_at h.at_ (by omega) nm hnl).mono ?_
  rintro e w' ⟨⟨v, rfl, h1⟩, h2, h3⟩
  exact ⟨v, rfl, h1, h.step h3 h2 (fun k hk => .inl hk), h3⟩
theorem San.names {w0 w : World} {g W H N : Nat} {L : List En} {Q : Nat → Prop} (h : San w0 w g W H N L Q) (hN : N ≤ 900000) :
    Calls Try.prog 22 #[.pointer (some ⟨g, 0, none⟩)] w fun e w' => ∃ v, e = .returned v ∧ Kd.R Kd.string 9 w' w.heap.size (fun _ => True) v (L.map En.nm) ∧ Below w.heap.size w w' := Names_at h.at_ hN
/-- A row is kept, where its blocks are. -/
theorem R_kept {α : Type} {d : Kd α} {e : Nat} {w w1 : World} {base : Nat} {ok : Nat → Prop} {v : Value} {xs : List α} (hR : d.R e w base ok v xs) (hm : ∀ k, base ≤ k → k < w.heap.size → ok k → w1.heap[k]? = w.heap[k]?) : d.R e w1 base ok v xs :=
  Kd.R_mono (Kd.R_step (Kd.R_bound hR) (fun k hk hlt => hm k hk.2.1 hlt hk.1)) (fun _ hk => hk.1)
theorem R_below {α : Type} {d : Kd α} {e : Nat} {w w1 : World} {base : Nat} {ok : Nat → Prop} {v : Value} {xs : List α} (hR : d.R e w base ok v xs) (hb : Below w.heap.size w w1) : d.R e w1 base ok v xs :=
  Kd.R_step hR (fun k _ hlt => hb.block k hlt)
theorem box_k (a b : Int) (CW CH : Nat) (ha : a = (CW : Int)) (hb : b = (CH : Int)) (hW : CW ≤ 63) (hH : CH ≤ 64) (w : World) : Calls Try.prog 29 #[.int .i64 a, .int .i64 b] w fun e w' => ∃ v, e = .returned (bmV (boxB CW CH) v) ∧ Kd.R (Kd.int .u64) 92 w' w.heap.size (fun _ => True) v (boxB CW CH).rows ∧ Below w.heap.size w w' := by
  subst ha hb
  exact box_c CW CH hW hH w
theorem Made_k (q0 q1 q2 : Int) (w : World) : Calls Try.prog 19 #[.agg #[.int .i64 q0, .int .i64 q1, .int .i64 q2]] w fun e w' => ∃ v, e = .returned (bmV (madeB q0 q1 q2) v) ∧ Kd.R (Kd.int .u64) 92 w' w.heap.size (fun _ => True) v (madeB q0 q1 q2).rows ∧ Below w.heap.size w w' := Made_c q0 q1 q2 w
theorem Same_k {w : World} {b1 b2 : Bm} {n1 n2 : Nat} {o1 o2 : Nat → Prop} {u v : Value} (hu : Kd.R (Kd.int .u64) 92 w n1 o1 u b1.rows) (hv : Kd.R (Kd.int .u64) 92 w n2 o2 v b2.rows) (h1 : b1.rows.length ≤ 1000) (h2 : b2.rows.length ≤ 1000) : Calls Try.prog 15 #[bmV b1 u, bmV b2 v] w fun e w' => e = .returned (.bool (sameB b1 b2)) ∧ Below w.heap.size w w' := by
  obtain ⟨A, c, rfl⟩ := Kd.R_slice hu
  obtain ⟨B, d, rfl⟩ := Kd.R_slice hv
  exact refSame_c _ _ _ _ _ _ _ _ A B _ _ c d _ _ w (Kd.R_reads' hu).2.2 (Kd.R_reads' hv).2.2 h1 h2
/-- The examples of the chapter, as they go. -/
def nA : ByteArray := ⟨#[97]⟩
def nB : ByteArray := ⟨#[98]⟩
def nC : ByteArray := ⟨#[99]⟩
def nD : ByteArray := ⟨#[100]⟩
def eA : En := ⟨nA, boxB 3 2, ⟨0, 0, 3, 2⟩⟩
def eB : En := ⟨nB, boxB 1 1, ⟨3, 0, 1, 1⟩⟩
def eC : En := ⟨nC, boxB 4 1, ⟨0, 2, 4, 1⟩⟩
def eD : En := ⟨nD, boxB 2 1, ⟨0, 2, 2, 1⟩⟩
theorem san1 : putP ((4 : Nat) : Int) ((3 : Nat) : Int) [] ⟨#[97]⟩ (boxB 3 2) = ([], 0, [eA]) := by kernel_rfl
theorem san2 : putP ((4 : Nat) : Int) ((3 : Nat) : Int) [eA] ⟨#[98]⟩ (boxB 1 1) = ([], 0, [eA, eB]) := by kernel_rfl
theorem san3 : putP ((4 : Nat) : Int) ((3 : Nat) : Int) [eA, eB] ⟨#[99]⟩ (boxB 4 1) = ([], 0, [eA, eB, eC]) := by kernel_rfl
theorem san4 : getB [eA, eB, eC] ⟨#[97]⟩ = (boxB 3 2, true) := by kernel_rfl
theorem san5 : useP [eA, eB, eC] ⟨#[97]⟩ = [eB, eC, eA] := by kernel_rfl
theorem san6 : putP ((4 : Nat) : Int) ((3 : Nat) : Int) [eB, eC, eA] ⟨#[100]⟩ (boxB 2 1) = ([⟨#[98]⟩, ⟨#[99]⟩], 0, [eA, eD]) := by kernel_rfl
theorem san7 : putP ((4 : Nat) : Int) ((3 : Nat) : Int) [eA, eD] ⟨#[101]⟩ (boxB 5 1) = ([], 50, [eA, eD]) := by kernel_rfl
theorem san8 : putP ((4 : Nat) : Int) ((3 : Nat) : Int) [eA, eD] ⟨#[97]⟩ (boxB 1 1) = ([], 6, [eA, eD]) := by kernel_rfl
theorem san9 : getB [eA, eD] ⟨#[98]⟩ = (b0, false) := by kernel_rfl
theorem san10 : useP [eA, eD] ⟨#[98]⟩ = [eA, eD] := by kernel_rfl
theorem box_rows (CW CH : Nat) (hW : CW ≤ 63) (hH : CH ≤ 64) : (boxB CW CH).rows.length ≤ 1000 ∧ ∀ x ∈ (boxB CW CH).rows, 0 ≤ x ∧ x ≤ 18446744073709551615 := by
  unfold boxB
  refine ⟨by simp only [List.length_replicate]; omega, fun x hx => ?_⟩
  rw [List.eq_of_mem_replicate hx]
  have h2 : 2 ^ CW ≤ 2 ^ 63 := Nat.pow_le_pow_right (by omega) hW
  have h3 : 0 < 2 ^ CW := Nat.pow_pos (by omega)
  generalize 2 ^ CW = y at h2 h3
  omega
theorem lie1 : ((rectP [eA, eB, eC] ⟨#[97]⟩).2 && rcEq (rectP [eA, eB, eC] ⟨#[97]⟩).1 ⟨0, 0, 3, 2⟩) = true := by kernel_rfl
theorem lie2 : ((rectP [eA, eB, eC] ⟨#[98]⟩).2 && rcEq (rectP [eA, eB, eC] ⟨#[98]⟩).1 ⟨3, 0, 1, 1⟩) = true := by kernel_rfl
theorem lie3 : ((rectP [eA, eB, eC] ⟨#[99]⟩).2 && rcEq (rectP [eA, eB, eC] ⟨#[99]⟩).1 ⟨0, 2, 4, 1⟩) = true := by kernel_rfl
theorem lie4 : ((rectP [eA, eD] ⟨#[100]⟩).2 && rcEq (rectP [eA, eD] ⟨#[100]⟩).1 ⟨0, 2, 2, 1⟩) = true := by kernel_rfl
end Go.Proofs.Ytoleencecfjcjaa.At

/- sanity. -/
set_option linter.unusedVariables false
set_option linter.unusedSimpArgs false
namespace Go.Proofs.Ytoleencecfjcjaa.At
open Go.RowKit Go.Proofs.YtoleencecfjcjaaW.PrintWords Go.Proofs.YtoleencecfjcjaaW.PrintLast Go.Proofs.YtoleencecfjcjaaW.PrintMore Go.Proofs.Ytoleencecfjcjaa.Rng
theorem nm_ex : Go.Proofs.Ytoleencecfjcjaa.Pn.atlas_Name.f 20 ⟨#[102]⟩ 1 [2] 8 [] 0 = some ⟨#[2, 102, 2, 2, 4, 16, 0]⟩ := by kernel_rfl
theorem San.new43 (w : World) : Calls Try.prog 10 #[.int .i64 4, .int .i64 3] w fun e w' => ∃ g Q, e = .returned (.pointer (some ⟨g, 0, none⟩)) ∧ San w w' g 4 3 0 [] Q := San.new 4 3 (by decide) (by decide)
theorem C_two {w : World} {q : Nat} {x y : ByteArray} (h : w.heap[q]? = some (.cells #[.string x, .string y] 9 (0, 0))) : Kd.C Kd.string w (some ⟨q, 0, none⟩) 2 [x, y] := by
  refine ⟨rfl, by decide, fun _ => ⟨_, rfl, fun j p hp => ⟨[.string p], rfl, rfl, fun i u hu => ?_⟩⟩⟩
  rw [Addr.add_mid, Nat.zero_add]
  refine ckA h _ _ ?_
  have hj : j < 2 := (List.getElem?_eq_some_iff.1 hp).1
  have hi : i = 0 := by have := (List.getElem?_eq_some_iff.1 hu).1; simpa using this
  subst hi
  have hu' : u = .string p := by simpa using hu.symm
  subst hu'
  have : j = 0 ∨ j = 1 := by omega
  rcases this with rfl | rfl
  · have : p = x := by simpa using hp.symm
    subst this; rfl
  · have : p = y := by simpa using hp.symm
    subst this; rfl
theorem C_one (w : World) (x : Int) : Kd.C (Kd.int .i64) (w.alloc (.cells #[.int .i64 x] 3 (0, 0))) (some ⟨w.heap.size, 0, none⟩) 1 [x] := by
  refine ⟨rfl, by decide, fun _ => ⟨_, rfl, fun j p hp => ⟨[.int .i64 p], rfl, rfl, fun i u hu => ?_⟩⟩⟩
  rw [Addr.add_mid, Nat.zero_add]
  refine ckA (blk_new w _) _ _ ?_
  have hj : j < 1 := (List.getElem?_eq_some_iff.1 hp).1
  have hi : i = 0 := by have := (List.getElem?_eq_some_iff.1 hu).1; simpa using this
  subst hi
  have hu' : u = .int .i64 p := by simpa using hu.symm
  subst hu'
  have : j = 0 := by omega
  subst this
  have : p = x := by simpa using hp.symm
  subst this; rfl
theorem C_none (w : World) : Kd.C (Kd.int .i64) w none 0 [] := ⟨rfl, by decide, fun h => absurd h (by decide)⟩
set_option maxRecDepth 100000 in
theorem texts_two {w : World} {b1 : Nat} {Q1 : Nat → Prop} {u : Value} {a : List ByteArray} (hu : Kd.R Kd.string 9 w b1 Q1 u a) {q : Nat} {x y : ByteArray} (h : w.heap[q]? = some (.cells #[.string x, .string y] 9 (0, 0))) (he : a = [x, y]) : Calls Try.prog 31 #[u, .slice (some ⟨q, 0, none⟩) 2 2] w fun e w' => e = .returned (.bool true) ∧ Below w.heap.size w w' := by
  subst he
  obtain ⟨A, c, rfl⟩ := Kd.R_slice hu
  have HU := Lib.hid hu
  have HV := Lib.hid (C_two h)
  clear hu h
  go_enter Try.func31, Try.ntmps31
  go_wp2_with (go_at_call 21; refine (SameTexts_c (a := [x, y]) (b := [x, y]) (Kd.R_reads' HU.out).2.2 (Kd.R_reads' HU.out).2.1 HV.out (Nat.le_refl _) (by simp)).mono ?_; rintro e wx ⟨rfl, hbx⟩; have HBX := Lib.hid hbx; clear hbx; rw [decide_eq_true rfl])
  go_ret
  exact ⟨rfl, HBX.out⟩
theorem bmV32 (v : Value) : bmV (boxB 3 2) v = .agg #[.int .i64 0, .int .i64 0, .int .i64 3, .int .i64 2, v] := rfl
theorem Same32 {w : World} {n1 n2 : Nat} {o1 o2 : Nat → Prop} {u v : Value} (hu : Kd.R (Kd.int .u64) 92 w n1 o1 u (boxB 3 2).rows) (hv : Kd.R (Kd.int .u64) 92 w n2 o2 v (boxB 3 2).rows) : Calls Try.prog 15 #[.agg #[.int .i64 0, .int .i64 0, .int .i64 3, .int .i64 2, u], bmV (boxB 3 2) v] w fun e w' => e = .returned (.bool true) ∧ Below w.heap.size w w' := by
  have h := Same_k hu hv (box_rows 3 2 (by decide) (by decide)).1 (box_rows 3 2 (by decide) (by decide)).1
  rwa [(sameB_iff _ _).2 rfl] at h
theorem bmV0 (v : Value) : bmV b0 v = .agg #[.int .i64 0, .int .i64 0, .int .i64 0, .int .i64 0, v] := rfl
set_option maxHeartbeats 8000000 in
set_option maxRecDepth 100000 in
theorem sanity_c (w : World) : Calls Try.prog 8 #[] w fun e w' => e = .returned (.bool true) ∧ Below w.heap.size w w' := by
  go_enter Try.func8, Try.ntmps8
  go_upto_region 2 with (go_at_call 10; refine (San.new43 _).mono ?_; rintro e W0 ⟨g, Q0, rfl, hs⟩; have HS := Lib.hid hs; clear hs)
  go_upto_region 5 with (first
    | (go_at_call 29; (with_reducible refine (box_k 3 2 3 2 rfl rfl (by decide) (by decide) _).mono ?_); rintro e Wb ⟨v, rfl, hr, hb⟩; have HBX := Lib.hid hr; have HBB := Lib.hid hb; clear hr hb)
    | (go_at_call 18; (with_reducible refine (HS.out.put (by decide) ⟨#[97]⟩ (by decide) (boxB 3 2) HBB.out HBX.out (box_rows 3 2 (by decide) (by decide))).mono ?_); rintro e W1 ⟨A1, c1, Q1, rfl, hr, hs, hq, hst⟩; rw [san1] at hr hs ⊢; dsimp only at hr hs ⊢; clear HS; have HS := Lib.hid hs; have HR1 := Lib.hid hr; clear hr hs hq hst HBX HBB))
  go_upto_region 6 with (first
    | (go_at_call 29; (with_reducible refine (box_k 1 1 1 1 rfl rfl (by decide) (by decide) _).mono ?_); rintro e Wb ⟨v, rfl, hr, hb⟩; have HBX := Lib.hid hr; have HBB := Lib.hid hb; clear hr hb)
    | (go_at_call 18; (with_reducible refine (HS.out.put (by decide) ⟨#[98]⟩ (by decide) (boxB 1 1) HBB.out HBX.out (box_rows 1 1 (by decide) (by decide))).mono ?_); rintro e W2 ⟨A2, c2, Q2, rfl, hr, hs, hq, hst⟩; rw [san2] at hr hs ⊢; dsimp only at hr hs ⊢; clear HS; have HS := Lib.hid hs; have HR2 := Lib.hid hr; clear hr hs hq hst HBX HBB))
  go_upto_region 7 with (first
    | (go_at_call 29; (with_reducible refine (box_k 4 1 4 1 rfl rfl (by decide) (by decide) _).mono ?_); rintro e Wb ⟨v, rfl, hr, hb⟩; have HBX := Lib.hid hr; have HBB := Lib.hid hb; clear hr hb)
    | (go_at_call 18; (with_reducible refine (HS.out.put (by decide) ⟨#[99]⟩ (by decide) (boxB 4 1) HBB.out HBX.out (box_rows 4 1 (by decide) (by decide))).mono ?_); rintro e W3 ⟨A3, c3, Q3, rfl, hr, hs, hq, hst⟩; rw [san3] at hr hs ⊢; dsimp only at hr hs ⊢; clear HS; have HS := Lib.hid hs; have HR3 := Lib.hid hr; clear hr hs hq hst HBX HBB))
  go_upto_region 8 with (first
    | (go_at_call 30; (with_reducible refine (lies_c HS.out.at_ ⟨#[97]⟩ (by decide) 0 0 3 2).mono ?_); rintro e Wl ⟨rfl, hb⟩; rw [lie1]; have n_ := Lib.hid (HS.out.below hb); clear HS hb; have HS := n_; clear n_)
    | (go_at_call 30; (with_reducible refine (lies_c HS.out.at_ ⟨#[98]⟩ (by decide) 3 0 1 1).mono ?_); rintro e Wm ⟨rfl, hb⟩; rw [lie2]; have n_ := Lib.hid (HS.out.below hb); clear HS hb; have HS := n_; clear n_)
    | (go_at_call 30; (with_reducible refine (lies_c HS.out.at_ ⟨#[99]⟩ (by decide) 0 2 4 1).mono ?_); rintro e Wn ⟨rfl, hb⟩; rw [lie3]; have n_ := Lib.hid (HS.out.below hb); clear HS hb; have HS := n_; clear n_))
  have HQB := Lib.hid (show ∀ k, Q3 k → k < Wn.heap.size from fun k hk => HS.out.at_.lt hk)
  go_upto_region 9 with (go_at_call 13; (with_reducible refine (HS.out.get (by decide) ⟨#[97]⟩ (by decide)).mono ?_); rintro e W4 ⟨v8, rfl, hr, hs, hst⟩; rw [san4] at hr ⊢; rw [san5] at hs; dsimp only at hr ⊢; obtain ⟨A8, c8, hv8⟩ := Kd.R_slice hr; rw [show (boxB 3 2).rows.length = 2 from rfl] at hv8; subst hv8; rw [bmV32 (.slice A8 2 c8)]; clear HS; have HS := Lib.hid hs; have HV8 := Lib.hid hr; have HSZ := Lib.hid hst.size; clear hr hs hst)
  have HS2 := Lib.hid (HS.out.below (below_alloc (Below.refl _ _) (.cells #[.int .i64 0, .int .i64 0, .int .i64 3, .int .i64 2, .slice A8 2 c8] 38 (0, 0))))
  have HV2 := Lib.hid (R_below HV8.out (below_alloc (Below.refl _ _) (.cells #[.int .i64 0, .int .i64 0, .int .i64 3, .int .i64 2, .slice A8 2 c8] 38 (0, 0))))
  have H9 := Lib.hid (blk_new W4 (.cells #[.int .i64 0, .int .i64 0, .int .i64 3, .int .i64 2, .slice A8 2 c8] 38 (0, 0)))
  generalize W4.alloc (.cells #[.int .i64 0, .int .i64 0, .int .i64 3, .int .i64 2, .slice A8 2 c8] 38 (0, 0)) = W5 at HS2 HV2 H9 ⊢
  obtain ⟨G9, hG9⟩ : ∃ G, G = W4.heap.size := ⟨_, rfl⟩
  rw [← hG9] at H9
  simp only [← hG9]
  have HG9 := Lib.hid (show Wn.heap.size ≤ G9 from hG9 ▸ HSZ.out)
  clear HS HV8 HSZ hG9
  have HS := HS2
  clear HS2
  go_upto_region 10 with (first
    | (go_at_call 29; (with_reducible refine (box_k 2 1 2 1 rfl rfl (by decide) (by decide) _).mono ?_); rintro e Wb ⟨v, rfl, hr, hb⟩; have HBX := Lib.hid hr; have HBB := Lib.hid hb; clear hr hb)
    | (go_at_call 18; (with_reducible refine (HS.out.put (by decide) ⟨#[100]⟩ (by decide) (boxB 2 1) HBB.out HBX.out (box_rows 2 1 (by decide) (by decide))).mono ?_); rintro e W6 ⟨A6, c6, Q6, rfl, hr, hs, hq, hst⟩; rw [san6] at hr hs ⊢; dsimp only at hr hs ⊢; have n_ := Lib.hid ((hst.1.2 G9 (Nat.lt_of_lt_of_le (lt_of_blk H9.out) HBB.out.size) (fun hq => by have h1 := HQB.out _ hq; have h2 := HG9.out; omega)).trans (blk_below H9.out HBB.out)); clear H9; have H9 := n_; clear n_; have n_ := Lib.hid (R_kept (R_below HV2.out HBB.out) (fun k hk hlt _ => hst.1.2 k hlt (fun hq => by have h1 := HQB.out _ hq; omega))); clear HV2; have HV2 := n_; clear n_; clear HS; have HS := Lib.hid hs; have HR6 := Lib.hid hr; clear hr hs hq hst HBX HBB))
  clear HQB HG9
  have HXd := Lib.hid (below_drew (Below.refl W6.heap.size W6))
  have s0 : W6.drew.cell? ⟨G9, 0, none⟩ = some (.int .i64 0) := ckA H9.out 0 _ rfl
  have s1 : W6.drew.cell? ⟨G9, 1, none⟩ = some (.int .i64 0) := ckA H9.out 1 _ rfl
  have s2 : W6.drew.cell? ⟨G9, 2, none⟩ = some (.int .i64 3) := ckA H9.out 2 _ rfl
  have s3 : W6.drew.cell? ⟨G9, 3, none⟩ = some (.int .i64 2) := ckA H9.out 3 _ rfl
  have s4 : W6.drew.cell? ⟨G9, 4, none⟩ = some (.slice A8 2 c8) := ckA H9.out 4 _ rfl
  refine start_ (n := 26) (S := fun w' => w'.cell? ⟨G9, 0, none⟩ = some (.int .i64 0) ∧ w'.cell? ⟨G9, 1, none⟩ = some (.int .i64 0) ∧ w'.cell? ⟨G9, 2, none⟩ = some (.int .i64 3) ∧ w'.cell? ⟨G9, 3, none⟩ = some (.int .i64 2) ∧ w'.cell? ⟨G9, 4, none⟩ = some (.slice A8 2 c8)) (ds := []) #[false, false, false, false, false, false, false, false, false, false, false, false, false, false, false, false, false, false, false, false, false, false, false, false, false, false] (by kernel_rfl) rfl rfl ⟨s0, s1, s2, s3, s4⟩ (fun hHeld => ?_)
  generalize W6.drew = wd at HXd s0 s1 s2 s3 s4 hHeld ⊢; have LG := Lib.hid (show G9 < wd.heap.size from World.block_lt_of_cell? _ _ s0); have HSd := Lib.hid (HS.out.below HXd.out); clear HS; have HS := HSd; clear HSd; have HRd := Lib.hid (show Kd.R Kd.string 9 wd _ _ (.slice A6 2 c6) _ from R_below HR6.out HXd.out); clear HR6; have HR6 := HRd; clear HRd; have HVd := Lib.hid (R_below HV2.out HXd.out); clear HV2; have HV2 := HVd; clear HVd HXd; have HX := Lib.hid (Below.refl wd.heap.size wd)
  refine pure_ (i := 0) (N := some 85) (v := ?_) (a' := ?_) #[true, false, false, false, false, false, false, false, false, false, false, false, false, false, false, false, false, false, false, false, false, false, false, false, false, false] rfl rfl (by kernel_rfl) (fun _ _ _ h => h) (Or.inl ⟨by rfl, ?_⟩) ?_ ?_
  rotate_left
  · intro w'
    go_simp
    with_reducible rfl
  rotate_left
  · simp only [Act.put, List.setIfInBounds_toArray, List.set_cons_zero, List.set_cons_succ, i64_w, i32_w]
    rfl
  refine pure_ (i := 1) (N := some 86) (v := ?_) (a' := ?_) #[true, true, false, false, false, false, false, false, false, false, false, false, false, false, false, false, false, false, false, false, false, false, false, false, false, false] rfl rfl (by kernel_rfl) (fun _ _ _ h => h) (Or.inl ⟨by rfl, ?_⟩) ?_ ?_
  rotate_left
  · intro w'
    go_simp
    with_reducible rfl
  rotate_left
  · simp only [Act.put, List.setIfInBounds_toArray, List.set_cons_zero, List.set_cons_succ, i64_w, i32_w]
    rfl
  refine take_ (i := 2) (N := some 87) (v := ?_) (a' := ?_) #[true, true, true, false, false, false, false, false, false, false, false, false, false, false, false, false, false, false, false, false, false, false, false, false, false, false] rfl rfl (by kernel_rfl) (fun _ _ _ h => h) (Or.inl ⟨by rfl, ?_⟩) hHeld ?_ ?_
  rotate_left
  · rintro w' ⟨s0, s1, s2, s3, s4⟩
    go_simp
    with_reducible rfl
  rotate_left
  · simp only [Act.put, List.setIfInBounds_toArray, List.set_cons_zero, List.set_cons_succ, i64_w, i32_w]
    rfl
  refine one_ (i := 3) (N := some 88) #[true, true, true, true, false, false, false, false, false, false, false, false, false, false, false, false, false, false, false, false, false, false, false, false, false, false] rfl rfl (by kernel_rfl) (by decide) (fun K hK => ?_)
  refine goes_ Try.func29 (by kernel_rfl) rfl #[.int .i64 3, .int .i64 2] (by rfl) rfl rfl (by simp only [List.map_toArray, List.map_cons, List.map_nil]; rfl) ?_
  with_reducible refine (box_k 3 2 3 2 rfl rfl (by decide) (by decide) wd).mono ?_
  rintro e w3_ ⟨v88, rfl, hr88, hb88⟩
  refine ⟨_, rfl, ?_⟩
  have HR88 := Lib.hid hr88
  have n_ := Lib.hid (HX.out.trans (hb88.mono HX.out.size)); clear HX; have HX := n_; clear n_
  clear hr88 hb88
  refine hK.out _ _ ⟨(HX.out.cell LG.out).trans s0, (HX.out.cell LG.out).trans s1, (HX.out.cell LG.out).trans s2, (HX.out.cell LG.out).trans s3, (HX.out.cell LG.out).trans s4⟩ (fun hHeld => ?_)
  clear hK K
  refine norm_ (a' := ?_) ?_ ?_
  rotate_left
  · show Act.put _ (some 88) _ = _
    simp only [Act.put, List.setIfInBounds_toArray, List.set_cons_zero, List.set_cons_succ, i64_w, i32_w]
    rfl
  refine one_ (i := 4) (N := some 89) #[true, true, true, true, true, false, false, false, false, false, false, false, false, false, false, false, false, false, false, false, false, false, false, false, false, false] rfl rfl (by kernel_rfl) (by decide) (fun K hK => ?_)
  refine goes_ Try.func15 (by kernel_rfl) rfl #[.agg #[.int .i64 0, .int .i64 0, .int .i64 3, .int .i64 2, .slice A8 2 c8], bmV (boxB 3 2) v88] (by rfl) rfl rfl (by simp only [List.map_toArray, List.map_cons, List.map_nil]; rfl) ?_
  with_reducible refine (Same32 (R_below HV2.out HX.out) HR88.out).mono ?_
  rintro e w4_ ⟨rfl, hb4⟩
  refine ⟨_, rfl, ?_⟩
  have n_ := Lib.hid (HX.out.trans (hb4.mono HX.out.size)); clear HX; have HX := n_; clear n_
  clear hb4
  refine hK.out _ _ ⟨(HX.out.cell LG.out).trans s0, (HX.out.cell LG.out).trans s1, (HX.out.cell LG.out).trans s2, (HX.out.cell LG.out).trans s3, (HX.out.cell LG.out).trans s4⟩ (fun hHeld => ?_)
  clear hK K
  refine norm_ (a' := ?_) ?_ ?_
  rotate_left
  · show Act.put _ (some 89) _ = _
    simp only [Act.put, List.setIfInBounds_toArray, List.set_cons_zero, List.set_cons_succ, i64_w, i32_w]
    rfl
  refine pure_ (i := 5) (N := some 90) (v := ?_) (a' := ?_) #[true, true, true, true, true, true, false, false, false, false, false, false, false, false, false, false, false, false, false, false, false, false, false, false, false, false] rfl rfl (by kernel_rfl) (fun _ _ _ h => h) (Or.inl ⟨by rfl, ?_⟩) ?_ ?_
  rotate_left
  · intro w'
    go_simp
    with_reducible rfl
  rotate_left
  · simp only [Act.put, List.setIfInBounds_toArray, List.set_cons_zero, List.set_cons_succ, i64_w, i32_w]
    rfl
  refine pure_ (i := 6) (N := some 91) (v := ?_) (a' := ?_) #[true, true, true, true, true, true, true, false, false, false, false, false, false, false, false, false, false, false, false, false, false, false, false, false, false, false] rfl rfl (by kernel_rfl) (fun _ _ _ h => h) (Or.inl ⟨by rfl, ?_⟩) ?_ ?_
  rotate_left
  · intro w'
    go_simp
    with_reducible rfl
  rotate_left
  · simp only [Act.put, List.setIfInBounds_toArray, List.set_cons_zero, List.set_cons_succ, i64_w, i32_w]
    rfl
  refine pure_ (i := 7) (N := some 92) (v := ?_) (a' := ?_) #[true, true, true, true, true, true, true, true, false, false, false, false, false, false, false, false, false, false, false, false, false, false, false, false, false, false] rfl rfl (by kernel_rfl) (fun _ _ _ h => h) (Or.inl ⟨by rfl, ?_⟩) ?_ ?_
  rotate_left
  · intro w'
    go_simp
    with_reducible rfl
  rotate_left
  · simp only [Act.put, List.setIfInBounds_toArray, List.set_cons_zero, List.set_cons_succ, i64_w, i32_w]
    rfl
  refine pure_ (i := 8) (N := some 93) (v := ?_) (a' := ?_) #[true, true, true, true, true, true, true, true, true, false, false, false, false, false, false, false, false, false, false, false, false, false, false, false, false, false] rfl rfl (by kernel_rfl) (fun _ _ _ h => h) (Or.inl ⟨by rfl, ?_⟩) ?_ ?_
  rotate_left
  · intro w'
    go_simp
    with_reducible rfl
  rotate_left
  · simp only [Act.put, List.setIfInBounds_toArray, List.set_cons_zero, List.set_cons_succ, i64_w, i32_w]
    rfl
  refine pure_ (i := 9) (N := some 94) (v := ?_) (a' := ?_) #[true, true, true, true, true, true, true, true, true, true, false, false, false, false, false, false, false, false, false, false, false, false, false, false, false, false] rfl rfl (by kernel_rfl) (fun _ _ _ h => h) (Or.inl ⟨by rfl, ?_⟩) ?_ ?_
  rotate_left
  · intro w'
    go_simp
    with_reducible rfl
  rotate_left
  · simp only [Act.put, List.setIfInBounds_toArray, List.set_cons_zero, List.set_cons_succ, i64_w, i32_w]
    rfl
  refine pure_ (i := 10) (N := some 95) (v := ?_) (a' := ?_) #[true, true, true, true, true, true, true, true, true, true, true, false, false, false, false, false, false, false, false, false, false, false, false, false, false, false] rfl rfl (by kernel_rfl) (fun _ _ _ h => h) (Or.inl ⟨by rfl, ?_⟩) ?_ ?_
  rotate_left
  · intro w'
    go_simp
    with_reducible rfl
  rotate_left
  · simp only [Act.put, List.setIfInBounds_toArray, List.set_cons_zero, List.set_cons_succ, i64_w, i32_w]
    rfl
  refine pure_ (i := 11) (N := some 96) (v := ?_) (a' := ?_) #[true, true, true, true, true, true, true, true, true, true, true, true, false, false, false, false, false, false, false, false, false, false, false, false, false, false] rfl rfl (by kernel_rfl) (fun _ _ _ h => h) (Or.inl ⟨by rfl, ?_⟩) ?_ ?_
  rotate_left
  · intro w'
    go_simp
    with_reducible rfl
  rotate_left
  · simp only [Act.put, List.setIfInBounds_toArray, List.set_cons_zero, List.set_cons_succ, i64_w, i32_w]
    rfl
  refine one_ (i := 12) (N := some 97) #[true, true, true, true, true, true, true, true, true, true, true, true, true, false, false, false, false, false, false, false, false, false, false, false, false, false] rfl rfl (by kernel_rfl) (by decide) (fun K hK => ?_)
  refine value_ (w1 := ?_) (v := ?_) (by rfl) rfl ?_ ?_
  rotate_left 2
  · go_simp
    constructor
    · rfl
    · rfl
  have ha := below_alloc (Below.refl w4_.heap.size w4_) (.cells #[.string ⟨#[98]⟩, .string ⟨#[99]⟩] 9 (0, 0))
  have n_ := Lib.hid (HX.out.trans (ha.mono HX.out.size)); clear HX; have HX := n_; clear n_
  clear ha
  refine hK.out _ _ ⟨(HX.out.cell LG.out).trans s0, (HX.out.cell LG.out).trans s1, (HX.out.cell LG.out).trans s2, (HX.out.cell LG.out).trans s3, (HX.out.cell LG.out).trans s4⟩ (fun hHeld => ?_)
  clear hK K
  refine norm_ (a' := ?_) ?_ ?_
  rotate_left
  · show Act.put _ (some 97) _ = _
    simp only [Act.put, List.setIfInBounds_toArray, List.set_cons_zero, List.set_cons_succ, i64_w, i32_w]
    rfl
  refine one_ (i := 13) (N := some 98) #[true, true, true, true, true, true, true, true, true, true, true, true, true, true, false, false, false, false, false, false, false, false, false, false, false, false] rfl rfl (by kernel_rfl) (by decide) (fun K hK => ?_)
  refine goes_ Try.func31 (by kernel_rfl) rfl #[.slice A6 2 c6, .slice (some ⟨w4_.heap.size, 0, none⟩) 2 2] (by rfl) rfl rfl (by simp only [List.map_toArray, List.map_cons, List.map_nil]; rfl) ?_
  with_reducible refine (texts_two (R_below HR6.out HX.out) (blk_new w4_ _) rfl).mono ?_
  rintro e w13 ⟨rfl, hb13⟩
  refine ⟨_, rfl, ?_⟩
  have n_ := Lib.hid (HX.out.trans (hb13.mono HX.out.size)); clear HX; have HX := n_; clear n_
  clear hb13
  refine hK.out _ _ ⟨(HX.out.cell LG.out).trans s0, (HX.out.cell LG.out).trans s1, (HX.out.cell LG.out).trans s2, (HX.out.cell LG.out).trans s3, (HX.out.cell LG.out).trans s4⟩ (fun hHeld => ?_)
  clear hK K
  refine norm_ (a' := ?_) ?_ ?_
  rotate_left
  · show Act.put _ (some 98) _ = _
    simp only [Act.put, List.setIfInBounds_toArray, List.set_cons_zero, List.set_cons_succ, i64_w, i32_w]
    rfl
  refine pure_ (i := 14) (N := some 99) (v := ?_) (a' := ?_) #[true, true, true, true, true, true, true, true, true, true, true, true, true, true, true, false, false, false, false, false, false, false, false, false, false, false] rfl rfl (by kernel_rfl) (fun _ _ _ h => h) (Or.inl ⟨by rfl, ?_⟩) ?_ ?_
  rotate_left
  · intro w'
    go_simp
    with_reducible rfl
  rotate_left
  · simp only [Act.put, List.setIfInBounds_toArray, List.set_cons_zero, List.set_cons_succ, i64_w, i32_w]
    rfl
  refine pure_ (i := 15) (N := some 100) (v := ?_) (a' := ?_) #[true, true, true, true, true, true, true, true, true, true, true, true, true, true, true, true, false, false, false, false, false, false, false, false, false, false] rfl rfl (by kernel_rfl) (fun _ _ _ h => h) (Or.inl ⟨by rfl, ?_⟩) ?_ ?_
  rotate_left
  · intro w'
    go_simp
    with_reducible rfl
  rotate_left
  · simp only [Act.put, List.setIfInBounds_toArray, List.set_cons_zero, List.set_cons_succ, i64_w, i32_w]
    rfl
  refine pure_ (i := 16) (N := some 101) (v := ?_) (a' := ?_) #[true, true, true, true, true, true, true, true, true, true, true, true, true, true, true, true, true, false, false, false, false, false, false, false, false, false] rfl rfl (by kernel_rfl) (fun _ _ _ h => h) (Or.inl ⟨by rfl, ?_⟩) ?_ ?_
  rotate_left
  · intro w'
    go_simp
    with_reducible rfl
  rotate_left
  · simp only [Act.put, List.setIfInBounds_toArray, List.set_cons_zero, List.set_cons_succ, i64_w, i32_w]
    rfl
  refine one_ (i := 17) (N := some 102) #[true, true, true, true, true, true, true, true, true, true, true, true, true, true, true, true, true, true, false, false, false, false, false, false, false, false] rfl rfl (by kernel_rfl) (by decide) (fun K hK => ?_)
  refine goes_ Try.func30 (by kernel_rfl) rfl #[.pointer (some ⟨g, 0, none⟩), .string ⟨#[100]⟩, .int .i64 0, .int .i64 2, .int .i64 2, .int .i64 1] (by rfl) rfl rfl (by simp only [List.map_toArray, List.map_cons, List.map_nil]; rfl) ?_
  with_reducible refine (lies_c (HS.out.below HX.out).at_ ⟨#[100]⟩ (by decide) 0 2 2 1).mono ?_
  rintro e w17 ⟨rfl, hb17⟩
  refine ⟨_, rfl, ?_⟩
  rw [lie4]
  have n_ := Lib.hid (HX.out.trans (hb17.mono HX.out.size)); clear HX; have HX := n_; clear n_
  clear hb17
  refine hK.out _ _ ⟨(HX.out.cell LG.out).trans s0, (HX.out.cell LG.out).trans s1, (HX.out.cell LG.out).trans s2, (HX.out.cell LG.out).trans s3, (HX.out.cell LG.out).trans s4⟩ (fun hHeld => ?_)
  clear hK K
  refine norm_ (a' := ?_) ?_ ?_
  rotate_left
  · show Act.put _ (some 102) _ = _
    simp only [Act.put, List.setIfInBounds_toArray, List.set_cons_zero, List.set_cons_succ, i64_w, i32_w]
    rfl
  refine pure_ (i := 18) (N := some 103) (v := ?_) (a' := ?_) #[true, true, true, true, true, true, true, true, true, true, true, true, true, true, true, true, true, true, true, false, false, false, false, false, false, false] rfl rfl (by kernel_rfl) (fun _ _ _ h => h) (Or.inl ⟨by rfl, ?_⟩) ?_ ?_
  rotate_left
  · intro w'
    go_simp
    with_reducible rfl
  rotate_left
  · simp only [Act.put, List.setIfInBounds_toArray, List.set_cons_zero, List.set_cons_succ, i64_w, i32_w]
    rfl
  refine pure_ (i := 19) (N := some 104) (v := ?_) (a' := ?_) #[true, true, true, true, true, true, true, true, true, true, true, true, true, true, true, true, true, true, true, true, false, false, false, false, false, false] rfl rfl (by kernel_rfl) (fun _ _ _ h => h) (Or.inl ⟨by rfl, ?_⟩) ?_ ?_
  rotate_left
  · intro w'
    go_simp
    with_reducible rfl
  rotate_left
  · simp only [Act.put, List.setIfInBounds_toArray, List.set_cons_zero, List.set_cons_succ, i64_w, i32_w]
    rfl
  refine pure_ (i := 20) (N := some 105) (v := ?_) (a' := ?_) #[true, true, true, true, true, true, true, true, true, true, true, true, true, true, true, true, true, true, true, true, true, false, false, false, false, false] rfl rfl (by kernel_rfl) (fun _ _ _ h => h) (Or.inl ⟨by rfl, ?_⟩) ?_ ?_
  rotate_left
  · intro w'
    go_simp
    with_reducible rfl
  rotate_left
  · simp only [Act.put, List.setIfInBounds_toArray, List.set_cons_zero, List.set_cons_succ, i64_w, i32_w]
    rfl
  refine join_ (σ := Value × Nat) 3 #[true, true, true, true, true, true, true, true, true, true, true, true, true, true, true, true, true, true, true, true, true, true, true, false, false, false] (fun s => [(106, s.1), (107, .slice (some ⟨s.2, 0, none⟩) 2 2)]) (fun s w' => Below w17.heap.size w17 w' ∧ Kd.R Kd.string 9 w' 0 (fun _ => True) s.1 [⟨#[97]⟩, ⟨#[100]⟩] ∧ w'.heap[s.2]? = some (.cells #[.string ⟨#[97]⟩, .string ⟨#[100]⟩] 9 (0, 0))) ?_ ?_
  rotate_left
  · intro hCont
    refine two_ (i := 21) (j := 22) (Ni := some 106) (Nj := some 107) #[true, true, true, true, true, true, true, true, true, true, true, true, true, true, true, true, true, true, true, true, true, true, false, false, false, false] #[true, true, true, true, true, true, true, true, true, true, true, true, true, true, true, true, true, true, true, true, true, false, true, false, false, false] rfl rfl rfl rfl (by kernel_rfl) (by decide) (by decide) (fun K hK => ?_) (fun K hK => ?_)
    · skip
      refine goes_ Try.func22 (by kernel_rfl) rfl #[.pointer (some ⟨g, 0, none⟩)] (by rfl) rfl rfl (by simp only [List.map_toArray, List.map_cons, List.map_nil]; rfl) ?_
      with_reducible refine ((HS.out.below HX.out).names (by decide)).mono ?_
      rintro e w21 ⟨u21, rfl, hr21, hb21⟩
      refine ⟨_, rfl, ?_⟩
      have HR21 := Lib.hid hr21
      have HX21 := Lib.hid hb21
      clear hr21 hb21
      refine hK.out _ _ ⟨((HX.out.trans (HX21.out.mono HX.out.size)).cell LG.out).trans s0, ((HX.out.trans (HX21.out.mono HX.out.size)).cell LG.out).trans s1, ((HX.out.trans (HX21.out.mono HX.out.size)).cell LG.out).trans s2, ((HX.out.trans (HX21.out.mono HX.out.size)).cell LG.out).trans s3, ((HX.out.trans (HX21.out.mono HX.out.size)).cell LG.out).trans s4⟩ (fun hHeld => ?_)
      clear hK K
      refine norm_ (a' := ?_) ?_ ?_
      rotate_left
      · show Act.put _ (some 106) _ = _
        simp only [Act.put, List.setIfInBounds_toArray, List.set_cons_zero, List.set_cons_succ, i64_w, i32_w]
        rfl
      refine one_ (i := 22) (N := some 107) #[true, true, true, true, true, true, true, true, true, true, true, true, true, true, true, true, true, true, true, true, true, true, true, false, false, false] rfl rfl (by kernel_rfl) (by decide) (fun K hK => ?_)
      refine value_ (w1 := ?_) (v := ?_) (by rfl) rfl ?_ ?_
      rotate_left 2
      · go_simp
        constructor
        · rfl
        · rfl
      refine hK.out _ _ ⟨((HX.out.trans ((HX21.out.trans (below_alloc (Below.refl w21.heap.size w21) (.cells #[.string ⟨#[97]⟩, .string ⟨#[100]⟩] 9 (0, 0)) |>.mono HX21.out.size)).mono HX.out.size)).cell LG.out).trans s0, ((HX.out.trans ((HX21.out.trans (below_alloc (Below.refl w21.heap.size w21) (.cells #[.string ⟨#[97]⟩, .string ⟨#[100]⟩] 9 (0, 0)) |>.mono HX21.out.size)).mono HX.out.size)).cell LG.out).trans s1, ((HX.out.trans ((HX21.out.trans (below_alloc (Below.refl w21.heap.size w21) (.cells #[.string ⟨#[97]⟩, .string ⟨#[100]⟩] 9 (0, 0)) |>.mono HX21.out.size)).mono HX.out.size)).cell LG.out).trans s2, ((HX.out.trans ((HX21.out.trans (below_alloc (Below.refl w21.heap.size w21) (.cells #[.string ⟨#[97]⟩, .string ⟨#[100]⟩] 9 (0, 0)) |>.mono HX21.out.size)).mono HX.out.size)).cell LG.out).trans s3, ((HX.out.trans ((HX21.out.trans (below_alloc (Below.refl w21.heap.size w21) (.cells #[.string ⟨#[97]⟩, .string ⟨#[100]⟩] 9 (0, 0)) |>.mono HX21.out.size)).mono HX.out.size)).cell LG.out).trans s4⟩ (fun hHeld => ?_)
      clear hK K
      refine norm_ (a' := ?_) ?_ ?_
      rotate_left
      · show Act.put _ (some 107) _ = _
        simp only [Act.put, List.setIfInBounds_toArray, List.set_cons_zero, List.set_cons_succ, i64_w, i32_w]
        rfl
      exact norm_ (by simp only [putAll, Act.put, List.setIfInBounds_toArray, List.set_cons_zero, List.set_cons_succ]) (hCont (u21, w21.heap.size) _ ⟨HX21.out.trans (below_alloc (Below.refl w21.heap.size w21) _ |>.mono HX21.out.size), Kd.R_lower (R_below HR21.out (below_alloc (Below.refl _ _) _)) (Nat.zero_le _), blk_new w21 _⟩)
    · skip
      refine value_ (w1 := ?_) (v := ?_) (by rfl) rfl ?_ ?_
      rotate_left 2
      · go_simp
        constructor
        · rfl
        · rfl
      refine hK.out _ _ ⟨((HX.out.trans ((below_alloc (Below.refl w17.heap.size w17) (.cells #[.string ⟨#[97]⟩, .string ⟨#[100]⟩] 9 (0, 0))).mono HX.out.size)).cell LG.out).trans s0, ((HX.out.trans ((below_alloc (Below.refl w17.heap.size w17) (.cells #[.string ⟨#[97]⟩, .string ⟨#[100]⟩] 9 (0, 0))).mono HX.out.size)).cell LG.out).trans s1, ((HX.out.trans ((below_alloc (Below.refl w17.heap.size w17) (.cells #[.string ⟨#[97]⟩, .string ⟨#[100]⟩] 9 (0, 0))).mono HX.out.size)).cell LG.out).trans s2, ((HX.out.trans ((below_alloc (Below.refl w17.heap.size w17) (.cells #[.string ⟨#[97]⟩, .string ⟨#[100]⟩] 9 (0, 0))).mono HX.out.size)).cell LG.out).trans s3, ((HX.out.trans ((below_alloc (Below.refl w17.heap.size w17) (.cells #[.string ⟨#[97]⟩, .string ⟨#[100]⟩] 9 (0, 0))).mono HX.out.size)).cell LG.out).trans s4⟩ (fun hHeld => ?_)
      clear hK K
      refine norm_ (a' := ?_) ?_ ?_
      rotate_left
      · show Act.put _ (some 107) _ = _
        simp only [Act.put, List.setIfInBounds_toArray, List.set_cons_zero, List.set_cons_succ, i64_w, i32_w]
        rfl
      refine one_ (i := 21) (N := some 106) #[true, true, true, true, true, true, true, true, true, true, true, true, true, true, true, true, true, true, true, true, true, true, true, false, false, false] rfl rfl (by kernel_rfl) (by decide) (fun K hK => ?_)
      refine goes_ Try.func22 (by kernel_rfl) rfl #[.pointer (some ⟨g, 0, none⟩)] (by rfl) rfl rfl (by simp only [List.map_toArray, List.map_cons, List.map_nil]; rfl) ?_
      with_reducible refine (((HS.out.below HX.out).below (below_alloc (Below.refl w17.heap.size w17) (.cells #[.string ⟨#[97]⟩, .string ⟨#[100]⟩] 9 (0, 0)))).names (by decide)).mono ?_
      rintro e w21 ⟨u21, rfl, hr21, hb21⟩
      refine ⟨_, rfl, ?_⟩
      have HR21 := Lib.hid hr21
      have HX21 := Lib.hid hb21
      clear hr21 hb21
      refine hK.out _ _ ⟨((HX.out.trans (((below_alloc (Below.refl w17.heap.size w17) (.cells #[.string ⟨#[97]⟩, .string ⟨#[100]⟩] 9 (0, 0))).trans (HX21.out.mono (below_alloc (Below.refl w17.heap.size w17) (.cells #[.string ⟨#[97]⟩, .string ⟨#[100]⟩] 9 (0, 0))).size)).mono HX.out.size)).cell LG.out).trans s0, ((HX.out.trans (((below_alloc (Below.refl w17.heap.size w17) (.cells #[.string ⟨#[97]⟩, .string ⟨#[100]⟩] 9 (0, 0))).trans (HX21.out.mono (below_alloc (Below.refl w17.heap.size w17) (.cells #[.string ⟨#[97]⟩, .string ⟨#[100]⟩] 9 (0, 0))).size)).mono HX.out.size)).cell LG.out).trans s1, ((HX.out.trans (((below_alloc (Below.refl w17.heap.size w17) (.cells #[.string ⟨#[97]⟩, .string ⟨#[100]⟩] 9 (0, 0))).trans (HX21.out.mono (below_alloc (Below.refl w17.heap.size w17) (.cells #[.string ⟨#[97]⟩, .string ⟨#[100]⟩] 9 (0, 0))).size)).mono HX.out.size)).cell LG.out).trans s2, ((HX.out.trans (((below_alloc (Below.refl w17.heap.size w17) (.cells #[.string ⟨#[97]⟩, .string ⟨#[100]⟩] 9 (0, 0))).trans (HX21.out.mono (below_alloc (Below.refl w17.heap.size w17) (.cells #[.string ⟨#[97]⟩, .string ⟨#[100]⟩] 9 (0, 0))).size)).mono HX.out.size)).cell LG.out).trans s3, ((HX.out.trans (((below_alloc (Below.refl w17.heap.size w17) (.cells #[.string ⟨#[97]⟩, .string ⟨#[100]⟩] 9 (0, 0))).trans (HX21.out.mono (below_alloc (Below.refl w17.heap.size w17) (.cells #[.string ⟨#[97]⟩, .string ⟨#[100]⟩] 9 (0, 0))).size)).mono HX.out.size)).cell LG.out).trans s4⟩ (fun hHeld => ?_)
      clear hK K
      refine norm_ (a' := ?_) ?_ ?_
      rotate_left
      · show Act.put _ (some 106) _ = _
        simp only [Act.put, List.setIfInBounds_toArray, List.set_cons_zero, List.set_cons_succ, i64_w, i32_w]
        rfl
      exact norm_ (by simp only [putAll, Act.put, List.setIfInBounds_toArray, List.set_cons_zero, List.set_cons_succ]) (hCont (u21, w17.heap.size) _ ⟨(below_alloc (Below.refl w17.heap.size w17) (.cells #[.string ⟨#[97]⟩, .string ⟨#[100]⟩] 9 (0, 0))).trans (HX21.out.mono (below_alloc (Below.refl w17.heap.size w17) (.cells #[.string ⟨#[97]⟩, .string ⟨#[100]⟩] 9 (0, 0))).size), Kd.R_lower HR21.out (Nat.zero_le _), blk_below (blk_new w17 _) HX21.out⟩)
  rintro ⟨u21, q22⟩ w22 ⟨hF, hU, hQ⟩
  dsimp only at hF hU hQ ⊢
  have n_ := Lib.hid (HX.out.trans (hF.mono HX.out.size)); clear HX; have HX := n_; clear n_
  have HU21 := Lib.hid hU
  have HQ22 := Lib.hid hQ
  have hHeld : w22.cell? ⟨G9, 0, none⟩ = some (.int .i64 0) ∧ w22.cell? ⟨G9, 1, none⟩ = some (.int .i64 0) ∧ w22.cell? ⟨G9, 2, none⟩ = some (.int .i64 3) ∧ w22.cell? ⟨G9, 3, none⟩ = some (.int .i64 2) ∧ w22.cell? ⟨G9, 4, none⟩ = some (.slice A8 2 c8) := ⟨(HX.out.cell LG.out).trans s0, (HX.out.cell LG.out).trans s1, (HX.out.cell LG.out).trans s2, (HX.out.cell LG.out).trans s3, (HX.out.cell LG.out).trans s4⟩
  clear hF hU hQ
  refine norm_ (a' := ?_) ?_ ?_
  rotate_left
  · simp only [putAll, Act.put, List.setIfInBounds_toArray, List.set_cons_zero, List.set_cons_succ]
    rfl
  refine one_ (i := 23) (N := some 108) #[true, true, true, true, true, true, true, true, true, true, true, true, true, true, true, true, true, true, true, true, true, true, true, true, false, false] rfl rfl (by kernel_rfl) (by decide) (fun K hK => ?_)
  refine goes_ Try.func31 (by kernel_rfl) rfl #[u21, .slice (some ⟨q22, 0, none⟩) 2 2] (by rfl) rfl rfl (by simp only [List.map_toArray, List.map_cons, List.map_nil]; rfl) ?_
  with_reducible refine (texts_two HU21.out HQ22.out rfl).mono ?_
  rintro e w23 ⟨rfl, hb23⟩
  refine ⟨_, rfl, ?_⟩
  have n_ := Lib.hid (HX.out.trans (hb23.mono HX.out.size)); clear HX; have HX := n_; clear n_
  clear hb23
  refine hK.out _ _ ⟨(HX.out.cell LG.out).trans s0, (HX.out.cell LG.out).trans s1, (HX.out.cell LG.out).trans s2, (HX.out.cell LG.out).trans s3, (HX.out.cell LG.out).trans s4⟩ (fun hHeld => ?_)
  clear hK K
  refine norm_ (a' := ?_) ?_ ?_
  rotate_left
  · show Act.put _ (some 108) _ = _
    simp only [Act.put, List.setIfInBounds_toArray, List.set_cons_zero, List.set_cons_succ, i64_w, i32_w]
    rfl
  refine pure_ (i := 24) (N := some 109) (v := ?_) (a' := ?_) #[true, true, true, true, true, true, true, true, true, true, true, true, true, true, true, true, true, true, true, true, true, true, true, true, true, false] rfl rfl (by kernel_rfl) (fun _ _ _ h => h) (Or.inl ⟨by rfl, ?_⟩) ?_ ?_
  rotate_left
  · intro w'
    go_simp
    with_reducible rfl
  rotate_left
  · simp only [Act.put, List.setIfInBounds_toArray, List.set_cons_zero, List.set_cons_succ, i64_w, i32_w]
    rfl
  refine pure_ (i := 25) (N := some 13) (v := ?_) (a' := ?_) #[true, true, true, true, true, true, true, true, true, true, true, true, true, true, true, true, true, true, true, true, true, true, true, true, true, true] rfl rfl (by kernel_rfl) (fun _ _ _ h => h) (Or.inl ⟨by rfl, ?_⟩) ?_ ?_
  rotate_left
  · intro w'
    go_simp
    with_reducible rfl
  rotate_left
  · simp only [Act.put, List.setIfInBounds_toArray, List.set_cons_zero, List.set_cons_succ, i64_w, i32_w]
    rfl
  refine done_ (by kernel_rfl) ?_
  have HS2 := Lib.hid (HS.out.below HX.out)
  clear hHeld s0 s1 s2 s3 s4 HS HX HV2 HR6 H9 LG HR88 HU21 HQ22
  have HS := HS2
  clear HS2
  go_upto_region 12 with (first
    | (go_at_call 29; (with_reducible refine (box_k 5 1 5 1 rfl rfl (by decide) (by decide) _).mono ?_); rintro e Wb ⟨v, rfl, hr, hb⟩; have HBX := Lib.hid hr; have HBB := Lib.hid hb; clear hr hb)
    | (go_at_call 18; (with_reducible refine (HS.out.put (by decide) ⟨#[101]⟩ (by decide) (boxB 5 1) HBB.out HBX.out (box_rows 5 1 (by decide) (by decide))).mono ?_); rintro e W7 ⟨A7, c7, Q7, rfl, hr, hs, hq, hst⟩; rw [san7] at hr hs ⊢; dsimp only at hr hs ⊢; clear HS; have HS := Lib.hid hs; have HR7 := Lib.hid hr; clear hr hs hq hst HBX HBB))
  go_upto_region 13 with (first
    | (go_at_call 29; (with_reducible refine (box_k 1 1 1 1 rfl rfl (by decide) (by decide) _).mono ?_); rintro e Wb ⟨v, rfl, hr, hb⟩; have HBX := Lib.hid hr; have HBB := Lib.hid hb; clear hr hb)
    | (go_at_call 18; (with_reducible refine (HS.out.put (by decide) ⟨#[97]⟩ (by decide) (boxB 1 1) HBB.out HBX.out (box_rows 1 1 (by decide) (by decide))).mono ?_); rintro e W8 ⟨A8, c8, Q8, rfl, hr, hs, hq, hst⟩; rw [san8] at hr hs ⊢; dsimp only at hr hs ⊢; clear HS; have HS := Lib.hid hs; have HR8 := Lib.hid hr; clear hr hs hq hst HBX HBB))
  go_upto_region 14 with (go_at_call 13; (with_reducible refine (HS.out.get (by decide) ⟨#[98]⟩ (by decide)).mono ?_); rintro e W9 ⟨v9, rfl, hr, hs, hst⟩; rw [san9] at hr ⊢; rw [san10] at hs; dsimp only at hr ⊢; obtain ⟨A9, c9, hv9⟩ := Kd.R_slice hr; rw [show b0.rows.length = 0 from rfl] at hv9; subst hv9; rw [bmV0 (.slice A9 0 c9)]; clear HS; have HS := Lib.hid hs; clear hr hs hst)
  have HS2 := Lib.hid (HS.out.below (below_alloc (Below.refl _ _) (.cells #[.int .i64 0, .int .i64 0, .int .i64 0, .int .i64 0, .slice A9 0 c9] 38 (0, 0))))
  generalize W9.alloc (.cells #[.int .i64 0, .int .i64 0, .int .i64 0, .int .i64 0, .slice A9 0 c9] 38 (0, 0)) = WA at HS2 ⊢
  have cn : ((⟨#[2, 102, 2, 2, 4, 16, 0]⟩ : ByteArray).toList == (⟨#[2, 102, 2, 2, 4, 16, 0]⟩ : ByteArray).toList) = true := beq_self_eq_true _
  go_wp2_with (first
    | (go_at_call 10; (with_reducible refine (New_bad 0 3 _ (by omega)).mono ?_); rintro e wx ⟨rfl, hw⟩; have hw2 := hw.symm; clear hw; subst hw2)
    | (go_at_call 26; (refine (Go.Proofs.Ytoleencecfjcjaa.Pn.atlas_Name.calls 20 ⟨#[102]⟩ 1 (some ⟨WA.heap.size, 0, none⟩) 1 [2] 8 none 0 [] 0 ⟨#[2, 102, 2, 2, 4, 16, 0]⟩ _ (C_one WA 2) (by decide) (C_none _) (by decide) nm_ex).mono ?_); rintro e wx ⟨rfl, hb⟩; have HBn := Lib.hid hb; clear hb))
  go_ret
  have h1 := HS2.out.b
  have h2 := below_alloc (Below.refl WA.heap.size WA) (.cells #[.int .i64 2] 3 (0, 0))
  exact ⟨rfl, h1.trans ((h2.trans (HBn.out.mono h2.size)).mono h1.size)⟩
end Go.Proofs.Ytoleencecfjcjaa.At

/- The program's atlas and the reference's, side by side; sizes. -/
set_option linter.unusedVariables false
set_option linter.unusedSimpArgs false
namespace Go.Proofs.Ytoleencecfjcjaa.At
open Go.RowKit Go.Proofs.YtoleencecfjcjaaW.PrintWords Go.Proofs.YtoleencecfjcjaaW.PrintLast Go.Proofs.YtoleencecfjcjaaW.PrintMore Go.Proofs.Ytoleencecfjcjaa.Rng
structure PS (w0 w : World) (g g2 W H N : Nat) (L1 L2 : List En) (Q1 Q2 : Nat → Prop) : Prop where
  own : AtIs w g W H N L1 Q1
  ref : RefS w g2 W H L2 Q2
  ge1 : ∀ k, Q1 k → w0.heap.size ≤ k
  ge2 : ∀ k, Q2 k → w0.heap.size ≤ k
  dis : ∀ k, Q1 k → ¬ Q2 k
  b : Below w0.heap.size w0 w
theorem RefS.lt {w : World} {g W H : Nat} {L : List En} {Q : Nat → Prop} (h : RefS w g W H L Q) {k : Nat} (hk : Q k) : k < w.heap.size := by
  obtain ⟨X, v, h, e⟩ := h
  exact h.lt k hk
theorem AtIs.len {w : World} {g W H N : Nat} {L : List En} {Q : Nat → Prop} (h : AtIs w g W H N L Q) : L.length ≤ N + 1 := by
  obtain ⟨l, gp, gt, b, cp, ct, clk, PX, TK, px, tk, es, mc, h, rfl, hQ⟩ := h
  rw [List.length_map]
  exact h.len_le
section
variable {w0 w w1 w2 : World} {g g2 W H N M : Nat} {L1 L2 L : List En} {Q1 Q2 Q : Nat → Prop}
theorem PS.below (h : PS w0 w g g2 W H N L1 L2 Q1 Q2) (hb : Below w.heap.size w w1) : PS w0 w1 g g2 W H N L1 L2 Q1 Q2 :=
  ⟨h.own.below hb, h.ref.below hb, h.ge1, h.ge2, h.dis, h.b.trans (hb.mono h.b.size)⟩
theorem PS.step1 (h : PS w0 w g g2 W H N L1 L2 Q1 Q2) (hs : Step Q1 w w1) (ha : AtIs w1 g W H M L Q) (hq : ∀ k, Q k → Q1 k ∨ w.heap.size ≤ k) : PS w0 w1 g g2 W H M L L2 Q Q2 :=
  ⟨ha, h.ref.keep hs h.dis, fun k hk => by
    rcases hq k hk with e | e
    · exact h.ge1 k e
    · exact Nat.le_trans h.b.size e, h.ge2, fun k hk e => by
    rcases hq k hk with e1 | e1
    · exact h.dis k e1 e
    · have := h.ref.lt e
      omega, h.b.trans (hs.below h.ge1 h.b.size)⟩
theorem PS.step2 (h : PS w0 w g g2 W H N L1 L2 Q1 Q2) (hs : Step Q2 w w1) (ha : RefS w1 g2 W H L Q) (hq : ∀ k, Q k → Q2 k ∨ w.heap.size ≤ k) : PS w0 w1 g g2 W H N L1 L Q1 Q :=
  ⟨h.own.keep hs (fun k e e1 => h.dis k e1 e), ha, h.ge1, fun k hk => by
    rcases hq k hk with e | e
    · exact h.ge2 k e
    · exact Nat.le_trans h.b.size e, fun k hk e => by
    rcases hq k e with e1 | e1
    · exact h.dis k hk e1
    · have := h.own.lt hk
      omega, h.b.trans (hs.below h.ge2 h.b.size)⟩
theorem PS.get1 (h : PS w0 w g g2 W H N L1 L2 Q1 Q2) (hN : N ≤ 1000) (nm : ByteArray) (hnl : nm.size ≤ 9223372036854775807) :
    Calls Try.prog 13 #[.pointer (some ⟨g, 0, none⟩), .string nm] w fun e w' => ∃ v, e = .returned (.tuple #[bmV (getB L1 nm).1 v, .bool (getB L1 nm).2]) ∧ Kd.R (Kd.int .u64) 92 w' w.heap.size (fun _ => True) v (getB L1 nm).1.rows ∧ PS w0 w' g g2 W H (N + 1) (useP L1 nm) L2 Q1 Q2 ∧ Step Q1 w w' := by
  refine (Get_at h.own (by omega) nm hnl).mono ?_
  rintro e w' ⟨⟨v, rfl, h1⟩, h2, h3⟩
  exact ⟨v, rfl, h1, h.step1 h3 h2 (fun k hk => .inl hk), h3⟩
theorem PS.get2 (h : PS w0 w g g2 W H N L1 L2 Q1 Q2) (hI : Inv W H L2) (hL : L2.length ≤ 90000) (nm : ByteArray) :
    Calls Try.prog 14 #[.pointer (some ⟨g2, 0, none⟩), .string nm] w fun e w' => ∃ v Q', e = .returned (.tuple #[bmV (getB L2 nm).1 v, .bool (getB L2 nm).2]) ∧ Kd.R (Kd.int .u64) 92 w' w.heap.size (fun k => ¬ Q' k) v (getB L2 nm).1.rows ∧ PS w0 w' g g2 W H N L1 (useP L2 nm) Q1 Q' ∧ Step Q2 w w' := by
  refine (refGet_at h.ref hI hL nm).mono ?_
  rintro e w' ⟨v, Q', rfl, h1, h2, h3, h4⟩
  exact ⟨v, Q', rfl, h1, h.step2 h4 h2 h3, h4⟩
theorem PS.rect1 (h : PS w0 w g g2 W H N L1 L2 Q1 Q2) (nm : ByteArray) (hnl : nm.size ≤ 9223372036854775807) :
    Calls Try.prog 16 #[.pointer (some ⟨g, 0, none⟩), .string nm] w fun e w' => e = .returned (.tuple #[rcV (rectP L1 nm).1, .bool (rectP L1 nm).2]) ∧ PS w0 w' g g2 W H N L1 L2 Q1 Q2 ∧ Below w.heap.size w w' := by
  refine (Rect_at h.own nm hnl).mono ?_
  rintro e w' ⟨rfl, hb⟩
  exact ⟨rfl, h.below hb, hb⟩
theorem PS.rect2 (h : PS w0 w g g2 W H N L1 L2 Q1 Q2) (hL : L2.length ≤ 90000) (nm : ByteArray) :
    Calls Try.prog 17 #[.pointer (some ⟨g2, 0, none⟩), .string nm] w fun e w' => e = .returned (.tuple #[rcV (rectP L2 nm).1, .bool (rectP L2 nm).2]) ∧ PS w0 w' g g2 W H N L1 L2 Q1 Q2 ∧ Below w.heap.size w w' := by
  refine (refRect_at h.ref hL nm).mono ?_
  rintro e w' ⟨rfl, hb⟩
  exact ⟨rfl, h.below hb, hb⟩
theorem PS.names1 (h : PS w0 w g g2 W H N L1 L2 Q1 Q2) (hN : N ≤ 1000) :
    Calls Try.prog 22 #[.pointer (some ⟨g, 0, none⟩)] w fun e w' => ∃ v, e = .returned v ∧ Kd.R Kd.string 9 w' w.heap.size (fun _ => True) v (L1.map En.nm) ∧ PS w0 w' g g2 W H N L1 L2 Q1 Q2 ∧ Below w.heap.size w w' := by
  refine (Names_at h.own (by omega)).mono ?_
  rintro e w' ⟨v, rfl, h1, hb⟩
  exact ⟨v, rfl, h1, h.below hb, hb⟩
theorem PS.names2 (h : PS w0 w g g2 W H N L1 L2 Q1 Q2) (hL : L2.length ≤ 90000) :
    Calls Try.prog 23 #[.pointer (some ⟨g2, 0, none⟩)] w fun e w' => ∃ v, e = .returned v ∧ Kd.R Kd.string 9 w' w.heap.size (fun _ => True) v (L2.map En.nm) ∧ PS w0 w' g g2 W H N L1 L2 Q1 Q2 ∧ Below w.heap.size w w' := by
  refine (refNames_at h.ref hL).mono ?_
  rintro e w' ⟨v, rfl, h1, hb⟩
  exact ⟨v, rfl, h1, h.below hb, hb⟩
theorem PS.put1 (h : PS w0 w g g2 W H N L1 L2 Q1 Q2) (hN : N ≤ 1000) (nm : ByteArray) (hnl : nm.size ≤ 9223372036854775807) (b : Bm) {v : Value} {base : Nat} (hQ : ∀ k, Q1 k → k < base) (hR : Kd.R (Kd.int .u64) 92 w base (fun _ => True) v b.rows) (hr : b.rows.length ≤ 1000 ∧ ∀ x ∈ b.rows, 0 ≤ x ∧ x ≤ 18446744073709551615) :
    Calls Try.prog 18 #[.pointer (some ⟨g, 0, none⟩), .string nm, bmV b v] w fun e w' => ∃ A c Q', e = .returned (.tuple #[.slice A (putP W H L1 nm b).1.length c, .int .i64 (putP W H L1 nm b).2.1]) ∧ Kd.R Kd.string 9 w' w.heap.size (fun k => ¬ Q' k) (.slice A (putP W H L1 nm b).1.length c) (putP W H L1 nm b).1 ∧ PS w0 w' g g2 W H (N + 1) (putP W H L1 nm b).2.2 L2 Q' Q2 ∧ Step Q1 w w' := by
  obtain ⟨A, c, rfl⟩ := Kd.R_slice hR
  obtain ⟨l0, t0, a0, h0, xs⟩ := b
  refine (Put_at h.own (by omega) nm hnl l0 t0 a0 h0 A xs.length c xs (Kd.R_reads' hR).2.2 (fun ad had hq => ?_) hr.1 hr.2).mono ?_
  · subst had
    have h1 := Ru_own hR
    have h2 := Ru_lt hR h1
    have h3 := hQ _ hq
    omega
  · rintro e w' ⟨v1, Q', rfl, h1, h2, h3, h4⟩
    obtain ⟨A1, c1, rfl⟩ := Kd.R_slice h1
    exact ⟨A1, c1, Q', rfl, h1, h.step1 h4 h2 h3, h4⟩
theorem PS.put2 (h : PS w0 w g g2 W H N L1 L2 Q1 Q2) (hI : Inv W H L2) (hW : 1 ≤ W ∧ W ≤ 128) (hH : H ≤ 128) (hL : L2.length ≤ 90000) (nm : ByteArray) (b : Bm) {v : Value} {base : Nat} (hQ : ∀ k, Q2 k → k < base) (hR : Kd.R (Kd.int .u64) 92 w base (fun _ => True) v b.rows) (hr : b.rows.length ≤ 1000 ∧ ∀ x ∈ b.rows, 0 ≤ x ∧ x ≤ 18446744073709551615) :
    Calls Try.prog 20 #[.pointer (some ⟨g2, 0, none⟩), .string nm, bmV b v] w fun e w' => ∃ A c Q', e = .returned (.tuple #[.slice A (putP W H L2 nm b).1.length c, .int .i64 (putP W H L2 nm b).2.1]) ∧ Kd.R Kd.string 9 w' w.heap.size (fun k => ¬ Q' k) (.slice A (putP W H L2 nm b).1.length c) (putP W H L2 nm b).1 ∧ PS w0 w' g g2 W H N L1 (putP W H L2 nm b).2.2 Q1 Q' ∧ Step Q2 w w' := by
  obtain ⟨A, c, rfl⟩ := Kd.R_slice hR
  obtain ⟨l0, t0, a0, h0, xs⟩ := b
  refine (refPut_at h.ref hI hW hH hL nm l0 t0 a0 h0 A c xs (Kd.R_reads' hR).2.2 (fun ad had => ?_) (Kd.R_reads' hR).2.1 hr.1 hr.2).mono ?_
  · subst had
    have h1 := Ru_own hR
    have h2 := Ru_lt hR h1
    exact ⟨fun hq => by have h3 := hQ _ hq; omega, h2.2⟩
  · rintro e w' ⟨v1, Q', rfl, h1, h2, h3, h4⟩
    obtain ⟨A1, c1, rfl⟩ := Kd.R_slice h1
    exact ⟨A1, c1, Q', rfl, h1, h.step2 h4 h2 h3, h4⟩
end
/-- The size of an area. -/
def szP (q : Nat) : Nat := 1 + q % 24
theorem szP_le (q : Nat) : 1 ≤ szP q ∧ szP q ≤ 24 := by unfold szP; omega
set_option maxRecDepth 100000 in
theorem sizes_c (a b : Nat) (ha : a ≤ 255) (hb : b ≤ 255) (w : World) : Calls Try.prog 9 #[.agg #[.int .u8 (a : Int), .int .u8 (b : Int)]] w fun e w' => e = .returned (.tuple #[.int .i64 (szP a : Int), .int .i64 (szP b : Int)]) ∧ Below w.heap.size w w' := by
  have HB := Lib.hid (below_alloc (Below.refl w.heap.size w) (.cells #[.int .u8 (a : Int), .int .u8 (b : Int)] 22 (0, 0)))
  have HX := blk_new w (.cells #[.int .u8 (a : Int), .int .u8 (b : Int)] 22 (0, 0))
  have s0 := ckA HX 0 _ rfl
  have s1 := ckA HX 1 _ rfl
  have m1 : IntKind.i64.wrap (a : Int) = (a : Int) := by rw [IntKind.wrap_i64]; omega
  have m2 : IntKind.i64.wrap (b : Int) = (b : Int) := by rw [IntKind.wrap_i64]; omega
  have m3 : ((a : Int).tmod 24) = ((a % 24 : Nat) : Int) := rfl
  have m4 : ((b : Int).tmod 24) = ((b % 24 : Nat) : Int) := rfl
  have m5 : wrap64 (1 + ((a % 24 : Nat) : Int)) = (szP a : Int) := by unfold wrap64 szP; omega
  have m6 : wrap64 (1 + ((b % 24 : Nat) : Int)) = (szP b : Int) := by unfold wrap64 szP; omega
  have m7 : IntKind.i64.wrap (1 + ((a % 24 : Nat) : Int)) = (szP a : Int) := by rw [IntKind.wrap_i64]; unfold szP; omega
  have m8 : IntKind.i64.wrap (1 + ((b % 24 : Nat) : Int)) = (szP b : Int) := by rw [IntKind.wrap_i64]; unfold szP; omega
  clear HX ha hb
  generalize szP a = x at m5 m7 ⊢
  generalize szP b = y at m6 m8 ⊢
  generalize a % 24 = ra at m3 m5 m7
  generalize b % 24 = rb at m4 m6 m8
  go_enter Try.func9, Try.ntmps9
  go_upto_region 1 with fail
  generalize w.alloc (.cells #[.int .u8 (a : Int), .int .u8 (b : Int)] 22 (0, 0)) = W1 at HB s0 s1 ⊢
  go_quiet (fail)
  go_wp2
  go_ret2
  exact ⟨rfl, by first | exact HB.out | exact HB.out.drew | exact pw_below_drewN HB.out _⟩
end Go.Proofs.Ytoleencecfjcjaa.At

