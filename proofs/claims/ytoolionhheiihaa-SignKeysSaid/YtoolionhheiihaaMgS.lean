/- Several texts of this claim, one behind the other: SgA, SgB, SgC, SgD, SgE, SgF. -/
import Derived.Test.YtoolionhheiihaaMgD
import Derived.Test.YtoolionhheiihaaMgG
import Derived.Lib.SmallJoins
import Derived.BigQuiet
import Derived.Deep.MidRow
import Derived.Deep.QuietTactic
import Derived.Test.YtoolionhheiihaaMgW
import Derived.Test.YtoolionhheiihaaMgR
/- sign.links and sign.link. -/
set_option linter.unusedVariables false
set_option linter.unusedSimpArgs false
namespace Go.Proofs.Ytoolionhheiihaa.Sg
open Go.RowKit Go.Proofs.YtoolionhheiihaaW.PrintWords Go.Proofs.Ytoolionhheiihaa.Rng Go.Proofs.Ytoolionhheiihaa.Dg Go.Proofs.Ytoolionhheiihaa.Gv
attribute [local go_sem] Oper.semAt_some
/-- A link, and its number. -/
structure Lk where
  k : Int
  s : ByteArray
def Lk.encs (x : Lk) : Array Value := #[.int .i64 x.k, .string x.s]
/-- A string, and what n digests make of it. -/
def lnk (s : ByteArray) : Nat → ByteArray
  | 0 => s
  | n + 1 => OfB (lnk s n)
theorem OfB_size (a : ByteArray) : (OfB a).size = 8 := by simp [OfB, dg, strOfNums_size]
theorem lnk_size (s : ByteArray) (hs : s.size ≤ 9223372036854775807) : ∀ n, (lnk s n).size ≤ 9223372036854775807
  | 0 => hs
  | n + 1 => by rw [lnk, OfB_size]; omega
def Lk.X (s : ByteArray) (f : Int) (pre : List Lk) (x : Lk) (_ : World) : Prop := x.k = f + pre.length ∧ x.s = lnk s pre.length
set_option maxRecDepth 100000 in
set_option maxHeartbeats 400000 in
theorem links_any (s : ByteArray) (f : Int) (w : World) :
    Calls Try.prog 69 #[.string s, .int .i64 f] w fun e w' => e = .returned (.func (.func 79) #[] #[.pointer (some ⟨w.heap.size + 1, 0, none⟩), .pointer (some ⟨w.heap.size, 0, none⟩)]) ∧ w' = (w.alloc (.cells #[.string s] 9)).alloc (.cells #[.int .i64 f] 3) := by
  go_enter Try.func69, Try.ntmps69
  go_wp2
  go_ret
  exact ⟨by simp, rfl⟩
set_option maxRecDepth 100000 in
set_option maxHeartbeats 1000000 in
theorem links_iter (n : Nat) (base bf bs : Nat) (s : ByteArray) (f : Int) (w : World) (h0f : 0 ≤ f) (h15 : f ≤ 15) (hs : s.size ≤ 9223372036854775807)
    (hbf : w.heap[bf]? = some (.cells #[.int .i64 f] 3 (0, 0))) (hbs : w.heap[bs]? = some (.cells #[.string s] 9 (0, 0))) :
    Iter Fence.wide n Try.prog 79 #[.pointer (some ⟨bf, 0, none⟩), .pointer (some ⟨bs, 0, none⟩)] Lk.encs (Lk.X s f) (fun k => k = bs) base (fun xs => (xs.length : Int) = 16 - f) (fun _ => True) w := by
  intro L J Jx W O hW hJO hJ hJx hY h0
  have hfW : W.cell? ⟨bf, 0, none⟩ = some (.int .i64 f) := cell_of_one ((hW.block bf (lt_of_block hbf)).trans hbf)
  have hsW := (hW.block bs (lt_of_block hbs)).trans hbs
  have HSW := Lib.hid hsW
  clear hsW
  refine callsIn_of_wp Try.func79 rfl trivial ?_ rfl
  simp only [Try.ntmps79, List.size_toArray, List.length_cons, List.length_nil, Nat.reduceAdd, Nat.reduceSub, Array.replicate_succ, Array.replicate_zero, List.push_toArray, List.append_toArray, List.nil_append, List.cons_append]
  gi_wp2
  gi_loopw [4] (fun v wr => ∃ (pre : List Lk) (O' : Nat → Prop) (k : Int), v = .int .i64 k ∧ k = f + pre.length ∧ k ≤ 16 ∧ J pre O' wr ∧ wr.heap[bs]? = some (.cells #[.string (lnk s pre.length)] 9 (0, 0)) ∧ W.heap.size ≤ wr.heap.size) (fun v _ => (16 - intOf v).toNat)
  case atStart => exact ⟨[], O, f, rfl, by simp, by omega, h0, HSW.out, Nat.le_refl _⟩
  case round =>
    obtain ⟨pre, O', k, rfl, hk, hk16, hJ', hG, hsz⟩ := hrel
    clear hfW
    have hsl := lnk_size s hs pre.length
    obtain ⟨y, hy0⟩ : ∃ y, y = lnk s pre.length := ⟨_, rfl⟩
    rw [← hy0] at hG hsl
    have c0 : wr.cell? ⟨bs, 0, none⟩ = some (.string y) := cell_of_one hG
    have hOg : ¬ O' bs := fun h => (hJO _ _ _ hJ' _ h).2.1 rfl
    by_cases hlt : k ≤ 15
    · have t1 : decide (k ≤ 15) = true := decide_eq_true hlt
      obtain ⟨fn, tmps, assign, body, hy, hR⟩ := hY pre ⟨k, y⟩ O' wr hJ' ⟨hk, hy0⟩
      dsimp only [Lk.encs] at hy
      have HK := Lib.hid hk
      have HY0 := Lib.hid hy0
      have HGG := Lib.hid hG
      have HLT := Lib.hid hlt
      have HJJ := Lib.hid hJ'
      clear hk hy0 hG hlt hk16 hJ'
      gi_wp2
      refine ⟨fun h => absurd h (by simp [Fence.wide]), ?_⟩
      refine hR.mono ?_
      rintro e W1 (⟨rfl, O2, hJ2, hst, hgrow⟩ | ⟨rfl, O2, hJx2⟩)
      · have hG1 := hst.same HGG.out hOg
        have c1 : W1.cell? ⟨bs, 0, none⟩ = some (.string y) := cell_of_one hG1
        have HST := Lib.hid hst
        have HJ2 := Lib.hid hJ2
        have HG1 := Lib.hid hG1
        have hs1 := hst.size
        clear hst hgrow hJ2 hG1 c0
        have k1w : IntKind.i64.wrap (k + 1) = k + 1 := by have := HLT.out; have := HK.out; rw [IntKind.wrap_i64]; omega
        gi_wp2_with (refine ⟨trivial, fun h => absurd h (by simp [Fence.wide]), ?_⟩; gi_at_call 47; refine (callsIn_wide.2 (Of_any y hsl _)).mono ?_; rintro e w3 ⟨rfl, hB3⟩; have hN3 := (hB3.block bs (lt_of_block HG1.out)).trans HG1.out; have hc3 := cell_of_one hN3; have hf3 : w3.frozen? ⟨bs, 0, none⟩ = false := free_of_one hN3)
        refine ⟨⟨pre ++ [⟨k, y⟩], O2, k + 1, rfl, ?_, by have := HLT.out; omega, hJ _ _ _ _ HJ2.out ((Step.of_below hB3 _).setCell (p := ⟨bs, 0, none⟩) (.inl (.inl rfl)) _), ?_, ?_⟩, ?_⟩
        · have := HK.out
          rw [List.length_append, List.length_singleton]
          omega
        · rw [one_setCell hN3, List.length_append, List.length_singleton, lnk, ← HY0.out]
        · have h1 : (w3.setCell ⟨bs, 0, none⟩ (.string (OfB y))).heap.size = w3.heap.size := by simp [World.setCell]
          rw [h1]
          exact Nat.le_trans hsz (Nat.le_trans hs1 hB3.size)
        · have := HLT.out
          simp only [intOf]
          omega
      · gi_wp2
        go_end0
        exact ⟨⟨_, rfl⟩, .inr ⟨_, O2, trivial, hJx2⟩⟩
    · have t1 : decide (k ≤ 15) = false := decide_eq_false hlt
      gi_wp2
      refine ⟨(fun f h => by cases h), ?_⟩
      gi_wp2
      go_end0
      exact ⟨⟨_, rfl⟩, .inl ⟨pre, O', by omega, hJ'⟩⟩
theorem results_str {fn : Func} {p : Tmp} (h : fn.results = #[.cell p 9]) (tmps : Array Value) (w : World) (g : Nat) (t : TypeId) (fr : Nat × Nat) (s : ByteArray)
    (hp : tmps.getD p undef = .pointer (some ⟨g, 0, none⟩)) (hg : w.heap[g]? = some (.cells #[.string s] t fr)) : (results fn tmps).run Try.prog w = .ok (.string s) w := by
  have hp' : tmps[p]?.getD undef = .pointer (some ⟨g, 0, none⟩) := by simpa using hp
  have hc : w.cell? ⟨g, 0, none⟩ = some (.string s) := by simp [World.cell?, hg]
  have hl : (loadVar 9 ⟨g, 0, none⟩).run Try.prog w = .ok (.string s) w := by
    simp [loadVar, Try.underlying9, hc]
  simp [results, h, hp', asAddr, hl]
def own2 (b : Nat) (k : Nat) : Prop := k = b ∨ k = b + 1
/-- What stands while links are counted. -/
def LI (base : Nat) (t : Int) (m : Nat) (w : World) (pre : List Lk) (O : Nat → Prop) (W : World) : Prop :=
  O = own2 base ∧ W.heap[base]? = some (.cells #[.int .i64 t] 3 (0, 0)) ∧ (∃ v, W.heap[base + 1]? = some (.cells #[.string v] 9 (0, 0))) ∧ pre.length ≤ m ∧ Below base w W
/-- What stands where the link was found. -/
def LX (base : Nat) (r : ByteArray) (w : World) (c : Code) (pre : List Lk) (O : Nat → Prop) (W : World) : Prop :=
  c = .ret ∧ O = own2 base ∧ W.heap[base + 1]? = some (.cells #[.string r] 9 (0, 0)) ∧ Below base w W
set_option maxRecDepth 100000 in
set_option maxHeartbeats 1000000 in
theorem link_any (s : ByteArray) (f t : Int) (w : World) (h0 : 0 ≤ f) (hft : f ≤ t) (ht : t ≤ 15) (hs : s.size ≤ 9223372036854775807) :
    Calls Try.prog 39 #[.string s, .int .i64 f, .int .i64 t] w fun e w' => e = .returned (.string (lnk s (t - f).toNat)) ∧ Below w.heap.size w w' := by
  refine (callsIn_wide (n := 3)).1 ?_
  refine callsIn_of_wp_marks Try.func39 rfl trivial ?_ rfl
  simp only [Try.ntmps39, List.size_toArray, List.length_cons, List.length_nil, Nat.reduceAdd, Nat.reduceSub, Array.replicate_succ, Array.replicate_zero, List.push_toArray, List.append_toArray, List.nil_append, List.cons_append]
  gi_wp2_with (refine ⟨trivial, ?_⟩; gi_at_call 69; refine (callsIn_wide.2 (links_any _ _ _)).mono ?_; rintro e w1 ⟨rfl, rfl⟩)
  obtain ⟨W0, hW0⟩ : ∃ W0, (((w.alloc (.cells #[.int .i64 t] 3)).alloc (.cells #[.string ⟨#[]⟩] 9)).alloc (.cells #[.string s] 9)).alloc (.cells #[.int .i64 f] 3) = W0 := ⟨_, rfl⟩
  obtain ⟨b0, b1, b2⟩ := three_new w (.cells #[.int .i64 t] 3) (.cells #[.string ⟨#[]⟩] 9) (.cells #[.string s] 9)
  have b3 : W0.heap[w.heap.size + 1 + 1 + 1]? = some (.cells #[.int .i64 f] 3 (0, 0)) := by
    rw [← hW0]
    have := heap_alloc_new (((w.alloc (.cells #[.int .i64 t] 3)).alloc (.cells #[.string ⟨#[]⟩] 9)).alloc (.cells #[.string s] 9)) (.cells #[.int .i64 f] 3)
    simpa using this
  have up : ∀ (k : Nat) (o : Obj), (((w.alloc (.cells #[.int .i64 t] 3)).alloc (.cells #[.string ⟨#[]⟩] 9)).alloc (.cells #[.string s] 9)).heap[k]? = some o → W0.heap[k]? = some o := fun k o h => by
    rw [← hW0, Below.heap_alloc _ _ _ (lt_of_block h)]
    exact h
  replace b0 := up _ _ b0
  replace b1 := up _ _ b1
  replace b2 := up _ _ b2
  clear up
  have bz : W0.heap.size = w.heap.size + 1 + 1 + 1 + 1 := by rw [← hW0]; simp
  have bB : Below w.heap.size w W0 := by rw [← hW0]; exact ((((Below.refl _ _).alloc (Nat.le_refl _) _).alloc (by simp) _).alloc (by simp; omega) _).alloc (by simp; omega) _
  rw [hW0]
  obtain ⟨B, hB⟩ : ∃ B, B = w.heap.size := ⟨_, rfl⟩
  rw [← hB] at b0 b1 b2 b3 bz bB ⊢
  have HB := Lib.hid hB
  clear hB hW0
  refine wpIn_range (encs := Lk.encs) (X := Lk.X s f) (S := fun xs => (xs.length : Int) = 16 - f) (Sp := fun _ => True) (base := B) (T0 := fun k => k = B + 1 + 1) rfl (fun h => absurd h (by simp [Fence.wide])) (gf := 79) (lb := #[.pointer (some ⟨B + 1 + 1 + 1, 0, none⟩), .pointer (some ⟨B + 1 + 1, 0, none⟩)]) rfl trivial (enters_of Try.func79 (by kernel_rfl) rfl)
    ?hseq (fun _ => rfl) ?hX (LI B t (t - f).toNat w) (LX B (lnk s (t - f).toNat) w) ?hI ?hIx (by omega) ?hT0 (own2 B) ?hO ?h0
    (fun x => { tmps := #[.string s, .int .i64 f, .int .i64 t, undef, undef, .pointer (some ⟨B, 0, none⟩), .pointer (some ⟨B + 1, 0, none⟩), .int .i64 x.k, .string x.s, .string s, .int .i64 f, .func (.func 79) #[] #[.pointer (some ⟨B + 1 + 1 + 1, 0, none⟩), .pointer (some ⟨B + 1 + 1, 0, none⟩)], .int .i64 x.k, .string x.s, undef, undef, undef, undef, undef], defers := [] })
    ?assign ?body ?done ?stop
  case hseq => exact links_iter _ B (B + 1 + 1 + 1) (B + 1 + 1) s f W0 h0 (by omega) hs b3 b2
  case hX => intro pre x W L o o' h _ _; exact h
  case hI =>
    rintro pre O W W' ⟨rfl, h1, ⟨v, h2⟩, h3, h4⟩ hst
    exact ⟨rfl, hst.same h1 (fun h => h.2 (.inl rfl)), ⟨v, hst.same h2 (fun h => h.2 (.inr rfl))⟩, h3, h4.trans (hst.below (fun k h => h.1) (Nat.le_trans (Nat.le_of_eq HB.out) h4.size))⟩
  case hIx =>
    rintro c pre O W W' ⟨rfl, rfl, h2, h4⟩ hst
    exact ⟨rfl, rfl, hst.same h2 (fun h => h.2 (.inr rfl)), h4.trans (hst.below (fun k h => h.1) (Nat.le_trans (Nat.le_of_eq HB.out) h4.size))⟩
  case hT0 => rintro k rfl; omega
  case hO =>
    rintro k (rfl | rfl)
    · exact ⟨Nat.le_refl _, by omega, by omega⟩
    · exact ⟨by omega, by omega, by omega⟩
  case h0 => exact ⟨rfl, b0, ⟨_, b1⟩, Nat.zero_le _, bB⟩
  case assign =>
    intro L x W K hK
    simp only [Lk.encs]
    gi_wp2
    exact hK
  case body =>
    rintro L pre x O W ⟨rfl, h1, ⟨v, h2⟩, h3, h4⟩ ⟨hxk, hxs⟩ hO hsz
    have c1 : W.cell? ⟨B, 0, none⟩ = some (.int .i64 t) := cell_of_one h1
    have c2 : W.cell? ⟨B + 1, 0, none⟩ = some (.string v) := cell_of_one h2
    have f2 : W.frozen? ⟨B + 1, 0, none⟩ = false := free_of_one h2
    have H1 := Lib.hid h1
    have H2 := Lib.hid h2
    have HXK := Lib.hid hxk
    have HXS := Lib.hid hxs
    clear h1 h2 hxk hxs
    by_cases hkt : x.k = t
    · have t1 : (x.k == t) = true := beq_iff_eq.mpr hkt
      have HKT := Lib.hid hkt
      clear hkt
      gi_wp2
      have hz : (W.setCell ⟨B + 1, 0, none⟩ (.string x.s)).heap.size = W.heap.size := by simp [World.setCell]
      refine ⟨own2 B, ⟨rfl, rfl, ?_, h4.setCell (p := ⟨B + 1, 0, none⟩) (Nat.le_succ _) _⟩, fun k h => .inl h, fun k h => by rw [hz]; exact (hO k h).2, (Step.refl (own2 B) W).setCell (p := ⟨B + 1, 0, none⟩) (.inl (.inr rfl)) _⟩
      have e1 := HXK.out
      have e2 := HKT.out
      rw [one_setCell H2.out, HXS.out, show (t - f).toNat = pre.length by omega]
    · have t1 : (x.k == t) = false := beq_eq_false_iff_ne.mpr hkt
      have HKT := Lib.hid hkt
      clear hkt
      gi_wp2
      refine ⟨own2 B, ⟨rfl, H1.out, ⟨v, H2.out⟩, ?_, h4⟩, fun k h => .inl h, fun k h => (hO k h).2, Step.refl _ _⟩
      have e1 := HXK.out
      have e2 := HKT.out
      rw [List.length_append, List.length_singleton]
      omega
  case done =>
    rintro D xs O W hD hS ⟨rfl, h1, h2, h3, h4⟩ hOD hK
    exfalso
    have hS' : (xs.length : Int) = 16 - f := hS
    omega
  case stop =>
    rintro D c pre O W hD hS ⟨rfl, rfl, h2, h4⟩ hOD hK
    gi_wp2
    refine ⟨by simp, .inl ⟨_, _, rfl, run_takeDeferred hK, ?_⟩⟩
    have hg : (W.putObj D (.deferred none)).heap[B + 1]? = some (.cells #[.string (lnk s (t - f).toNat)] 9 (0, 0)) := (World.putObj_heap_other (fun e => hOD (.inr e.symm))).trans h2
    refine ⟨_, results_str rfl _ _ (B + 1) _ _ _ rfl hg, rfl, ?_⟩
    have hb : Below B w (W.putObj D (.deferred none)) := h4.trans ((Step.putObj _ _ _).below (fun k e => by subst e; omega) (Nat.le_trans (Nat.le_of_eq HB.out) h4.size))
    exact hb.mono (Nat.le_of_eq HB.out.symm)
end Go.Proofs.Ytoolionhheiihaa.Sg

/- (sign.key).start and (sign.key).leaf. -/
set_option linter.unusedVariables false
set_option linter.unusedSimpArgs false
namespace Go.Proofs.Ytoolionhheiihaa.Sg
open Go.RowKit Go.Proofs.YtoolionhheiihaaW.PrintWords Go.Proofs.YtoolionhheiihaaW.PrintLast Go.Proofs.YtoolionhheiihaaW.PrintMore Go.Proofs.Ytoolionhheiihaa.Dg Go.Proofs.Ytoolionhheiihaa.Gv Go.Proofs.Ytoolionhheiihaa.Pb Go.Proofs.Ytoolionhheiihaa.Gw
theorem ck {w : World} {b : Nat} {cs : Array Value} {T : TypeId} {fr : Nat × Nat} (hb : w.heap[b]? = some (.cells cs T fr)) (j : Nat) (v : Value) (hv : cs[j]? = some v) : w.cell? ⟨b, j, none⟩ = some v := by
  simp [World.cell?, hb, hv]
set_option maxRecDepth 100000 in
set_option maxHeartbeats 1000000 in
theorem start_any (k : Nat) (seed : ByteArray) (no c : Int) (tb ib cb : ByteArray) (w : World) (ht : wire_Text.f k seed = some tb) (hi : wire_Int.f k no = some ib) (hc : wire_Int.f k c = some cb) (hz : tb.size + ib.size + cb.size ≤ 9223372036854775807) :
    Calls Try.prog 40 #[.agg #[.string seed, .int .i64 no], .int .i64 c] w fun e w' => e = .returned (.string (OfB ((tb ++ ib) ++ cb))) ∧ Below w.heap.size w w' := by
  have HT := Lib.hid ht
  have HI := Lib.hid hi
  have HC := Lib.hid hc
  have hOF : digest_Of.f ((tb ++ ib) ++ cb) = some (OfB ((tb ++ ib) ++ cb)) := if_pos (by simp only [ByteArray.size_append]; omega)
  have HOF := Lib.hid hOF
  have z1 : (tb.size + ib.size ≤ 9223372036854775807) = True := eq_true (by omega)
  have z2 : (9223372036854775807 < tb.size + ib.size) = False := eq_false (by omega)
  have z3 : ((tb ++ ib).size + cb.size ≤ 9223372036854775807) = True := eq_true (by simp only [ByteArray.size_append]; omega)
  have z4 : (9223372036854775807 < (tb ++ ib).size + cb.size) = False := eq_false (by simp only [ByteArray.size_append]; omega)
  have z5 : (9223372036854775807 < tb.size + ib.size + cb.size) = False := eq_false (by omega)
  have z6 : (tb.size + ib.size + cb.size ≤ 9223372036854775807) = True := eq_true (by omega)
  obtain ⟨Wb, hWb⟩ : ∃ W, W = w.alloc (.cells #[.string seed, .int .i64 no] 61) := ⟨_, rfl⟩
  have hbb : Below w.heap.size w Wb := by rw [hWb]; exact below_alloc (Below.refl _ _) _
  have hbl : Wb.heap[w.heap.size]? = some (.cells #[.string seed, .int .i64 no] 61 (0, 0)) := by rw [hWb]; exact blk_new w _
  have c0 : Wb.drew.cell? ⟨w.heap.size, 0, none⟩ = some (.string seed) := ck hbl _ _ rfl
  have c1 : Wb.drew.cell? ⟨w.heap.size, 1, none⟩ = some (.int .i64 no) := ck hbl _ _ rfl
  have HB := Lib.hid (below_drew1 hbb)
  have hlt := World.block_lt_of_cell? _ _ c0
  have hlt1 := World.block_lt_of_cell? _ _ c1
  clear ht hi hc hOF hbb hbl hz
  go_enter Try.func40, Try.ntmps40
  go_wp2
  rw [← hWb]
  refine start_ (n := 12) (S := fun w' => w'.cell? ⟨w.heap.size, 0, none⟩ = some (.string seed) ∧ w'.cell? ⟨w.heap.size, 1, none⟩ = some (.int .i64 no)) (ds := []) #[false, false, false, false, false, false, false, false, false, false, false, false] (by kernel_rfl) rfl rfl ⟨c0, c1⟩ (fun hHeld => ?_)
  generalize Wb.drew = wd at HB c0 c1 hlt hlt1 hHeld ⊢; have HX := Lib.hid (Below.refl wd.heap.size wd)
  refine pure_ (i := 0) (N := some 5) (v := ?_) (a' := ?_) #[true, false, false, false, false, false, false, false, false, false, false, false] rfl rfl (by kernel_rfl) (fun _ _ _ h => h) (Or.inl ⟨by rfl, ?_⟩) ?_ ?_
  rotate_left
  · intro w'
    go_simp
    with_reducible rfl
  rotate_left
  · simp only [Act.put, List.setIfInBounds_toArray, List.set_cons_zero, List.set_cons_succ, i64_w, i32_w]
    rfl
  refine pure_ (i := 3) (N := some 8) (v := ?_) (a' := ?_) #[true, false, false, true, false, false, false, false, false, false, false, false] rfl rfl (by kernel_rfl) (fun _ _ _ h => h) (Or.inl ⟨by rfl, ?_⟩) ?_ ?_
  rotate_left
  · intro w'
    go_simp
    with_reducible rfl
  rotate_left
  · simp only [Act.put, List.setIfInBounds_toArray, List.set_cons_zero, List.set_cons_succ, i64_w, i32_w]
    rfl
  refine pure_ (i := 7) (N := some 12) (v := ?_) (a' := ?_) #[true, false, false, true, false, false, false, true, false, false, false, false] rfl rfl (by kernel_rfl) (fun _ _ _ h => h) (Or.inl ⟨by rfl, ?_⟩) ?_ ?_
  rotate_left
  · intro w'
    go_simp
    with_reducible rfl
  rotate_left
  · simp only [Act.put, List.setIfInBounds_toArray, List.set_cons_zero, List.set_cons_succ, i64_w, i32_w]
    rfl
  refine take_ (i := 1) (N := some 6) (v := ?_) (a' := ?_) #[true, true, false, true, false, false, false, true, false, false, false, false] rfl rfl (by kernel_rfl) (fun _ _ _ h => h) (Or.inl ⟨by rfl, ?_⟩) hHeld ?_ ?_
  rotate_left
  · rintro w' ⟨s0, s1⟩
    go_simp
    with_reducible rfl
  rotate_left
  · simp only [Act.put, List.setIfInBounds_toArray, List.set_cons_zero, List.set_cons_succ, i64_w, i32_w]
    rfl
  refine take_ (i := 4) (N := some 9) (v := ?_) (a' := ?_) #[true, true, false, true, true, false, false, true, false, false, false, false] rfl rfl (by kernel_rfl) (fun _ _ _ h => h) (Or.inl ⟨by rfl, ?_⟩) hHeld ?_ ?_
  rotate_left
  · rintro w' ⟨s0, s1⟩
    go_simp
    with_reducible rfl
  rotate_left
  · simp only [Act.put, List.setIfInBounds_toArray, List.set_cons_zero, List.set_cons_succ, i64_w, i32_w]
    rfl
  refine one_ (i := 2) (N := some 7) #[true, true, true, true, true, false, false, true, false, false, false, false] rfl rfl (by kernel_rfl) (by decide) (fun K hK => ?_)
  refine goes_ Try.func70 (by kernel_rfl) rfl #[.string seed] (by rfl) rfl rfl (by simp only [List.map_toArray, List.map_cons, List.map_nil]; rfl) ?_
  with_reducible refine (wire_Text.calls k seed tb _ HT.out).mono ?_
  rintro e wx ⟨rfl, hb⟩
  refine ⟨_, rfl, ?_⟩
  have n_ := Lib.hid (HX.out.trans (hb.mono HX.out.size)); clear HX; have HX := n_; clear n_ hb
  refine hK.out _ _ ⟨(HX.out.cell hlt).trans c0, (HX.out.cell hlt1).trans c1⟩ (fun hHeld => ?_)
  clear hK K
  refine norm_ (a' := ?_) ?_ ?_
  rotate_left
  · show Act.put _ (some 7) _ = _
    simp only [Act.put, List.setIfInBounds_toArray, List.set_cons_zero, List.set_cons_succ, i64_w, i32_w]
    rfl
  refine one_ (i := 5) (N := some 10) #[true, true, true, true, true, true, false, true, false, false, false, false] rfl rfl (by kernel_rfl) (by decide) (fun K hK => ?_)
  refine goes_ Try.func41 (by kernel_rfl) rfl #[.int .i64 no] (by rfl) rfl rfl (by simp only [List.map_toArray, List.map_cons, List.map_nil]; rfl) ?_
  with_reducible refine (wire_Int.calls k no ib _ HI.out).mono ?_
  rintro e wx ⟨rfl, hb⟩
  refine ⟨_, rfl, ?_⟩
  have n_ := Lib.hid (HX.out.trans (hb.mono HX.out.size)); clear HX; have HX := n_; clear n_ hb
  refine hK.out _ _ ⟨(HX.out.cell hlt).trans c0, (HX.out.cell hlt1).trans c1⟩ (fun hHeld => ?_)
  clear hK K
  refine norm_ (a' := ?_) ?_ ?_
  rotate_left
  · show Act.put _ (some 10) _ = _
    simp only [Act.put, List.setIfInBounds_toArray, List.set_cons_zero, List.set_cons_succ, i64_w, i32_w]
    rfl
  refine pure_ (i := 6) (N := some 11) (v := ?_) (a' := ?_) #[true, true, true, true, true, true, true, true, false, false, false, false] rfl rfl (by kernel_rfl) (fun _ _ _ h => h) (Or.inl ⟨by rfl, ?_⟩) ?_ ?_
  rotate_left
  · intro w'
    go_simp
    with_reducible rfl
  rotate_left
  · simp only [Act.put, List.setIfInBounds_toArray, List.set_cons_zero, List.set_cons_succ, i64_w, i32_w]
    rfl
  refine one_ (i := 8) (N := some 13) #[true, true, true, true, true, true, true, true, true, false, false, false] rfl rfl (by kernel_rfl) (by decide) (fun K hK => ?_)
  refine goes_ Try.func41 (by kernel_rfl) rfl #[.int .i64 c] (by rfl) rfl rfl (by simp only [List.map_toArray, List.map_cons, List.map_nil]; rfl) ?_
  with_reducible refine (wire_Int.calls k c cb _ HC.out).mono ?_
  rintro e wx ⟨rfl, hb⟩
  refine ⟨_, rfl, ?_⟩
  have n_ := Lib.hid (HX.out.trans (hb.mono HX.out.size)); clear HX; have HX := n_; clear n_ hb
  refine hK.out _ _ ⟨(HX.out.cell hlt).trans c0, (HX.out.cell hlt1).trans c1⟩ (fun hHeld => ?_)
  clear hK K
  refine norm_ (a' := ?_) ?_ ?_
  rotate_left
  · show Act.put _ (some 13) _ = _
    simp only [Act.put, List.setIfInBounds_toArray, List.set_cons_zero, List.set_cons_succ, i64_w, i32_w]
    rfl
  refine pure_ (i := 9) (N := some 14) (v := ?_) (a' := ?_) #[true, true, true, true, true, true, true, true, true, true, false, false] rfl rfl (by kernel_rfl) (fun _ _ _ h => h) (Or.inl ⟨by rfl, ?_⟩) ?_ ?_
  rotate_left
  · intro w'
    go_simp
    with_reducible rfl
  rotate_left
  · simp only [Act.put, List.setIfInBounds_toArray, List.set_cons_zero, List.set_cons_succ, i64_w, i32_w]
    rfl
  refine one_ (i := 10) (N := some 15) #[true, true, true, true, true, true, true, true, true, true, true, false] rfl rfl (by kernel_rfl) (by decide) (fun K hK => ?_)
  refine goes_ Try.func47 (by kernel_rfl) rfl #[.string ((tb ++ ib) ++ cb)] (by rfl) rfl rfl (by simp only [List.map_toArray, List.map_cons, List.map_nil]; rfl) ?_
  with_reducible refine (digest_Of.calls ((tb ++ ib) ++ cb) _ _ HOF.out).mono ?_
  rintro e wx ⟨rfl, hb⟩
  refine ⟨_, rfl, ?_⟩
  have n_ := Lib.hid (HX.out.trans (hb.mono HX.out.size)); clear HX; have HX := n_; clear n_ hb
  refine hK.out _ _ ⟨(HX.out.cell hlt).trans c0, (HX.out.cell hlt1).trans c1⟩ (fun hHeld => ?_)
  clear hK K
  refine norm_ (a' := ?_) ?_ ?_
  rotate_left
  · show Act.put _ (some 15) _ = _
    simp only [Act.put, List.setIfInBounds_toArray, List.set_cons_zero, List.set_cons_succ, i64_w, i32_w]
    rfl
  refine pure_ (i := 11) (N := some 4) (v := ?_) (a' := ?_) #[true, true, true, true, true, true, true, true, true, true, true, true] rfl rfl (by kernel_rfl) (fun _ _ _ h => h) (Or.inl ⟨by rfl, ?_⟩) ?_ ?_
  rotate_left
  · intro w'
    go_simp
    with_reducible rfl
  rotate_left
  · simp only [Act.put, List.setIfInBounds_toArray, List.set_cons_zero, List.set_cons_succ, i64_w, i32_w]
    rfl
  refine done_ (by kernel_rfl) ?_
  go_wp2
  go_ret
  exact ⟨rfl, HB.out.trans (HX.out.mono HB.out.size)⟩
theorem link_full (s : ByteArray) (w : World) (hs : s.size ≤ 9223372036854775807) :
    Calls Try.prog 39 #[.string s, .int .i64 0, .int .i64 15] w fun e w' => e = .returned (.string (lnk s 15)) ∧ Below w.heap.size w w' :=
  link_any s 0 15 w (by omega) (by omega) (by omega) hs
/-- The link 0 of a chain. -/
def startF (k : Nat) (seed : ByteArray) (no c : Int) : Option ByteArray := (wire_Text.f k seed).bind fun tb => (wire_Int.f k no).bind fun ib => (wire_Int.f k c).bind fun cb => if tb.size + ib.size + cb.size ≤ 9223372036854775807 then some (OfB ((tb ++ ib) ++ cb)) else none
theorem startF_size {k : Nat} {seed : ByteArray} {no c : Int} {r : ByteArray} (h : startF k seed no c = some r) : r.size = 8 := by
  obtain ⟨tb, ht, h⟩ := Option.bind_eq_some_iff.1 h
  obtain ⟨ib, hi, h⟩ := Option.bind_eq_some_iff.1 h
  obtain ⟨cb, hc, h⟩ := Option.bind_eq_some_iff.1 h
  by_cases hz : tb.size + ib.size + cb.size ≤ 9223372036854775807
  · rw [if_pos hz] at h
    obtain rfl := Option.some.inj h
    exact OfB_size _
  · rw [if_neg hz] at h; cases h
theorem startF_calls (k : Nat) (seed : ByteArray) (no c : Int) (r : ByteArray) (w : World) (h : startF k seed no c = some r) :
    Calls Try.prog 40 #[.agg #[.string seed, .int .i64 no], .int .i64 c] w fun e w' => e = .returned (.string r) ∧ Below w.heap.size w w' := by
  obtain ⟨tb, ht, h⟩ := Option.bind_eq_some_iff.1 h
  obtain ⟨ib, hi, h⟩ := Option.bind_eq_some_iff.1 h
  obtain ⟨cb, hc, h⟩ := Option.bind_eq_some_iff.1 h
  by_cases hz : tb.size + ib.size + cb.size ≤ 9223372036854775807
  · rw [if_pos hz] at h
    obtain rfl := Option.some.inj h
    exact start_any k seed no c tb ib cb w ht hi hc hz
  · rw [if_neg hz] at h; cases h
/-- The last links of n chains. -/
def ends (st : Nat → ByteArray) : Nat → ByteArray
  | 0 => ⟨#[]⟩
  | n + 1 => ends st n ++ lnk (st n) 15
theorem ends_size (st : Nat → ByteArray) : ∀ n, (ends st n).size = 8 * n
  | 0 => rfl
  | n + 1 => by
    have h1 : (lnk (st n) 15).size = 8 := OfB_size _
    rw [ends, ByteArray.size_append, ends_size st n, h1]
    omega
set_option maxRecDepth 100000 in
set_option maxHeartbeats 1000000 in
theorem leaf_any (k : Nat) (seed : ByteArray) (no : Int) (st : Nat → ByteArray) (w : World) (h : ∀ c : Nat, c < 18 → startF k seed no (c : Int) = some (st c)) :
    Calls Try.prog 66 #[.agg #[.string seed, .int .i64 no]] w fun e w' => e = .returned (.string (OfB (ends st 18))) ∧ Below w.heap.size w w' := by
  have HS := Lib.hid h
  have HOF := Lib.hid (show digest_Of.f (ends st 18) = some (OfB (ends st 18)) from if_pos (by rw [ends_size]; omega))
  obtain ⟨Wb, hWb⟩ : ∃ W, W = w.alloc (.cells #[.string seed, .int .i64 no] 61) := ⟨_, rfl⟩
  have hbb : Below w.heap.size w Wb := by rw [hWb]; exact below_alloc (Below.refl _ _) _
  have hbl : Wb.heap[w.heap.size]? = some (.cells #[.string seed, .int .i64 no] 61 (0, 0)) := by rw [hWb]; exact blk_new w _
  have hsz : Wb.heap.size = w.heap.size + 1 := by rw [hWb]; simp
  have hfr := Lib.IsBuilderF.of (Lib.fresh_isBuilder 66 5 Wb)
  have hbf : Below Wb.heap.size Wb (Wb.alloc (.cells #[.pointer none, .slice none 0 0] 66)) := (Below.refl _ _).alloc (Nat.le_refl _) _
  have HFR := Lib.hid hfr
  have HBF := Lib.hid hbf
  have HBB := Lib.hid hbb
  have HWB := Lib.hid hWb
  clear h hfr hbf hbb
  go_enter Try.func66, Try.ntmps66
  go_wp2
  simp only [← HWB.out, ← hsz]
  have HBL := Lib.hid hbl
  have HSZ := Lib.hid hsz
  clear hWb hbl hsz
  go_loopw [8] (fun i wr => ∃ n : Nat, n ≤ 18 ∧ i = .int .i64 n ∧ Gw.LI Wb.heap.size Wb (ends st n).data.toList wr) (fun i _ => 18 - (intOf i).toNat)
  case atStart => exact ⟨0, by omega, rfl, HFR.out, HBF.out⟩
  case round =>
    obtain ⟨n, hn, rfl, hI⟩ := hrel
    have hs0 := hI.2.size
    have HI := Lib.hid hI
    clear hI
    by_cases hlt : n < 18
    · have h8 := ends_size st n
      have hl8 : (lnk (st n) 15).size = 8 := OfB_size _
      have hst := HS.out n hlt
      have hst8 := startF_size hst
      have hd : (ends st n).data.toList.length = 8 * n := by rw [Array.length_toList]; exact h8
      have HST := Lib.hid hst
      have HD := Lib.hid hd
      have HL8 := Lib.hid hl8
      have HLT := Lib.hid hlt
      have HS0 := Lib.hid hs0
      have HST8 := Lib.hid hst8
      have hx1 : decide ((n : Int) < 18) = true := decide_eq_true (by omega)
      clear hst hd hl8 h8 hlt hs0 hst8
      go_wp2_with (first
        | (go_at_call 40; refine (startF_calls k seed no n (st n) _ HST.out).mono ?_; rintro e w3 ⟨rfl, hb3⟩; have hI3 := (HI.out.call HS0.out hb3); have HI3 := Lib.hid hI3; clear hI3 hb3)
        | (go_at_call 39; refine (link_full (st n) _ (by have := HST8.out; omega)).mono ?_; rintro e w4 ⟨rfl, hb4⟩; have hI4 := (HI3.out.call HI3.out.2.size hb4); have HI4 := Lib.hid hI4; clear hI4 hb4)
        | (go_at_call 45; refine (Bd.writeString Wb.heap.size Wb.heap.size _ (lnk (st n) 15) _ HI4.out.1 (by rw [Lib.byteCells_length, HD.out, HL8.out]; omega) HI4.out.2.size).mono ?_; rintro e w5 ⟨rfl, hI5, hb5, -⟩; have HI5 := Lib.hid hI5; have HB5 := Lib.hid hb5; clear hI5 hb5))
      go_roundw
      case rel =>
        refine ⟨n + 1, by have := HLT.out; omega, by go_num, .inr ?_, HI4.out.2.trans HB5.out⟩
        have e : (ends st (n + 1)).data.toList = (ends st n).data.toList ++ (lnk (st n) 15).data.toList := by
          show (ends st n ++ lnk (st n) 15).data.toList = _
          rw [ByteArray.data_append, Array.toList_append]
        rw [e, Lib.byteCells_append]
        exact HI5.out
      case measure => have := HLT.out; simp [intOf]; omega
    · obtain rfl : n = 18 := by omega
      clear hn hlt
      have hx1 : decide (((18 : Nat) : Int) < 18) = false := by decide
      go_wp2_with (first
        | (go_at_call 48; refine (Bd.toString_any Wb.heap.size Wb.heap.size (ends st 18).data.toList _ HI.out.1 hs0).mono ?_; rintro e w5 ⟨rfl, hb5⟩)
        | (go_at_call 47; refine (digest_Of.calls (ends st 18) _ _ HOF.out).mono ?_; rintro e w6 ⟨rfl, hb6⟩))
      go_ret
      exact ⟨rfl, HBB.out.trans (((HI.out.2.trans hb5).trans (hb6.mono (Nat.le_trans hs0 hb5.size))).mono HBB.out.size)⟩
end Go.Proofs.Ytoolionhheiihaa.Sg

/- sign.of: the digits of a message. -/
set_option linter.unusedVariables false
set_option linter.unusedSimpArgs false
namespace Go.Proofs.Ytoolionhheiihaa.Sg
open Go.RowKit Go.Proofs.YtoolionhheiihaaW.PrintWords Go.Proofs.YtoolionhheiihaaW.PrintLast Go.Proofs.YtoolionhheiihaaW.PrintMore Go.Proofs.Ytoolionhheiihaa.Dg Go.Proofs.Ytoolionhheiihaa.Gv Go.Proofs.Ytoolionhheiihaa.Pb Go.Proofs.Ytoolionhheiihaa.Gw
/-- The digits of a sum: two of each byte. -/
def hx (b : ByteArray) (j : Nat) : Int := if j % 2 = 0 then rb b (j / 2) / 16 else rb b (j / 2) % 16
def restv (b : ByteArray) : Nat → Int
  | 0 => 0
  | k + 1 => restv b k + 15 - hx b (2 * k) + 15 - hx b (2 * k + 1)
def row (b : ByteArray) (k : Nat) : Array Value := ((List.range 18).map fun j => Value.int .i64 (if j < 2 * k then hx b j else 0)).toArray
theorem rb_range (b : ByteArray) (j : Nat) : 0 ≤ rb b j ∧ rb b j ≤ 255 := by
  unfold rb
  have := (b.data.toList.getD j 0).toNat_lt
  omega
theorem hx_range (b : ByteArray) (j : Nat) : 0 ≤ hx b j ∧ hx b j ≤ 15 := by
  have := rb_range b (j / 2)
  unfold hx
  split <;> omega
theorem restv_range (b : ByteArray) (k : Nat) : 0 ≤ restv b k ∧ restv b k ≤ 30 * k := by
  induction k with
  | zero => simp [restv]
  | succ k ih => have h1 := hx_range b (2 * k); have h2 := hx_range b (2 * k + 1); simp only [restv]; omega
theorem row_size (b : ByteArray) (k : Nat) : (row b k).size = 18 := by simp [row]
theorem row_step (b : ByteArray) (k : Nat) (hk : k < 8) : ((row b k).setIfInBounds (2 * k) (.int .i64 (hx b (2 * k)))).setIfInBounds (2 * k + 1) (.int .i64 (hx b (2 * k + 1))) = row b (k + 1) := by
  match k, hk with
  | 0, _ => rfl
  | 1, _ => rfl
  | 2, _ => rfl
  | 3, _ => rfl
  | 4, _ => rfl
  | 5, _ => rfl
  | 6, _ => rfl
  | 7, _ => rfl
theorem hx_even (b : ByteArray) (k : Nat) : wrap64 (rb b k / 16) = hx b (2 * k) := by
  have h := rb_range b k
  unfold hx wrap64
  rw [if_pos (by omega), show 2 * k / 2 = k from by omega]
  omega
theorem hx_odd (b : ByteArray) (k : Nat) : wrap64 (bits .and .u8 (rb b k) 15) = hx b (2 * k + 1) := by
  have h := rb_range b k
  have e : bits .and .u8 (rb b k) 15 = rb b k % 16 := bits_mask .u8 8 (by decide) (fun n h0 h1 => by unfold IntKind.wrap; simp [IntKind.bits, IntKind.signed]; omega) 4 (by decide) (rb b k) h.1 (by omega)
  rw [e]
  unfold hx wrap64
  rw [if_neg (by omega), show (2 * k + 1) / 2 = k from by omega]
  omega
theorem below_cells {B b : Nat} {a : World} (hb : B ≤ b) : ∀ (vs : List Value) (o : Nat) (w : World), Below B a w → Below B a (w.setCells b o vs)
  | [], _, _, h => h
  | v :: vs, o, w, h => below_cells hb vs (o + 1) _ (h.setCell (p := ⟨b, o, none⟩) hb v)
theorem range_blk {w : World} {D : Nat} {cs : Array Value} {T : TypeId} (h : w.heap[D]? = some (.cells cs T (0, 0))) : w.rangeAt D 0 cs.toList := fun j v hv => by
  have hj : j < cs.size := by have := (List.getElem?_eq_some_iff.1 hv).1; simpa using this
  rw [Nat.zero_add, (blk_cell h j hj).1]
  rw [← hv]; simp [hj]
theorem there_blk {w : World} {D n : Nat} {cs : Array Value} {T : TypeId} (h : w.heap[D]? = some (.cells cs T (0, 0))) (hn : cs.size = n) : w.there D 0 n := fun j hj => by
  rw [Nat.zero_add, (blk_cell h j (by omega)).1]
  exact ⟨rfl, (blk_cell h j (by omega)).2⟩
/-- What sign.of answers. -/
def digV (b : ByteArray) : Value := .agg #[.int .i64 (hx b 0), .int .i64 (hx b 1), .int .i64 (hx b 2), .int .i64 (hx b 3), .int .i64 (hx b 4), .int .i64 (hx b 5), .int .i64 (hx b 6), .int .i64 (hx b 7), .int .i64 (hx b 8), .int .i64 (hx b 9), .int .i64 (hx b 10), .int .i64 (hx b 11), .int .i64 (hx b 12), .int .i64 (hx b 13), .int .i64 (hx b 14), .int .i64 (hx b 15), .int .i64 (restv b 8 / 16), .int .i64 (restv b 8 % 16)]
theorem row8 (b : ByteArray) : row b 8 = #[.int .i64 (hx b 0), .int .i64 (hx b 1), .int .i64 (hx b 2), .int .i64 (hx b 3), .int .i64 (hx b 4), .int .i64 (hx b 5), .int .i64 (hx b 6), .int .i64 (hx b 7), .int .i64 (hx b 8), .int .i64 (hx b 9), .int .i64 (hx b 10), .int .i64 (hx b 11), .int .i64 (hx b 12), .int .i64 (hx b 13), .int .i64 (hx b 14), .int .i64 (hx b 15), .int .i64 0, .int .i64 0] := rfl
theorem cell_kept {w W : World} {S : Nat → Prop} (h : Kept w W S) {p : Addr} {v : Value} (hp : w.cell? p = some v) (hb : p.block < w.heap.size) (hS : ¬ S p.block) : W.cell? p = some v := by
  rw [← hp]; simp only [World.cell?, h.2 p.block hb hS]
set_option maxRecDepth 100000 in
set_option maxHeartbeats 1000000 in
theorem of_any (msg : ByteArray) (w : World) (hs : msg.size ≤ 9223372036854775807) :
    Calls Try.prog 38 #[.string msg] w fun e w' => e = .returned (digV (OfB msg)) ∧ Below w.heap.size w w' := by
  have HOF := Lib.hid (show digest_Of.f msg = some (OfB msg) from if_pos hs)
  have h8 := OfB_size msg
  obtain ⟨b, hb⟩ : ∃ b, b = OfB msg := ⟨_, rfl⟩
  rw [← hb] at h8
  have HBB := Lib.hid hb
  have H8 := Lib.hid h8
  clear hb h8
  have hcv : ∀ W : World, (convert 9 51 (.string b)).run Try.prog W = .ok (.slice (some ⟨W.heap.size, 0, none⟩) 8 (grownCap W b.size 0 5)) (Lib.bytesWorld W 5 b) := by
    intro W
    have := Lib.run_convert_string_bytes (P := Try.prog) W _ _ 5 b Try.underlying9 Try.underlying51 Try.underlying5
    rw [H8.out] at this
    rw [H8.out]
    exact this
  go_enter Try.func38, Try.ntmps38
  go_wp2_with (go_at_call 47; refine (digest_Of.calls msg b _ (by rw [HBB.out]; exact HOF.out)).mono ?_; rintro e w1 ⟨rfl, hb1⟩)
  have hy : w1.heap[w.heap.size]? = some (.cells (row b 0) 57 (0, 0)) := (hb1.block _ (by simp; omega)).trans (new1 _ _ _)
  have hz : w1.heap[w.heap.size + 1]? = some (.cells (row b 0) 57 (0, 0)) := (hb1.block _ (by simp)).trans (new2 _ _ _)
  have hlt1 : w.heap.size + 1 < w1.heap.size := lt_of_block hz
  have hz2 : (Lib.bytesWorld w1 5 b).heap[w.heap.size + 1]? = some (.cells (row b 0) 57 (0, 0)) := ((Joins.below_bytesWorld _ w1 5 b (Nat.le_refl _)).block _ hlt1).trans hz
  have hy2 : (Lib.bytesWorld w1 5 b).heap[w.heap.size]? = some (.cells (row b 0) 57 (0, 0)) := ((Joins.below_bytesWorld _ w1 5 b (Nat.le_refl _)).block _ (by omega)).trans hy
  have HY := Lib.hid hy2
  clear hy hy2
  have hkey : ∀ k : Nat, k < 8 → (Lib.bytesWorld w1 5 b).cell? ⟨w1.heap.size, k, none⟩ = some (.int .u8 (rb b k)) := fun k hk => Lib.bytesWorld_cell w1 5 b k (by have := H8.out; omega)
  have hs2 : (Lib.bytesWorld w1 5 b).heap.size = w1.heap.size + 1 := Lib.bytesWorld_size _ _ _
  have hb2 : Below w.heap.size w (Lib.bytesWorld w1 5 b) := (((Below.refl _ _).alloc (Nat.le_refl _) _).alloc (by simp) _).trans ((hb1.mono (by simp; omega)).trans ((Joins.below_bytesWorld _ w1 5 b (Nat.le_refl _)).mono (by omega)))
  have HZ := Lib.hid hz2
  have HB2 := Lib.hid hb2
  have HKEY := Lib.hid hkey
  have HS2 := Lib.hid hs2
  have HCV := Lib.hid hcv
  clear hz hz2 hb2 hkey hs2 hb1 hcv
  generalize Lib.bytesWorld w1 5 b = W0 at *
  go_loopw [4, 5, 6, 11] (fun rv _ _ i wr => ∃ k : Nat, k ≤ 8 ∧ i = .int .i64 k ∧ rv = .int .i64 (restv b k) ∧ wr.heap[w.heap.size + 1]? = some (.cells (row b k) 57 (0, 0)) ∧ Kept W0 wr (fun j => j = w.heap.size + 1) ∧ Below w.heap.size w wr) (fun _ _ _ i _ => 8 - (intOf i).toNat)
  case atStart => exact ⟨0, by omega, rfl, rfl, HZ.out, Kept.refl _ _, HB2.out⟩
  case round =>
    obtain ⟨k, hk, rfl, rfl, cX, hK, hB⟩ := hrel
    by_cases hlt : k < 8
    · have hby : wr.cell? ⟨w1.heap.size, k, none⟩ = some (.int .u8 (rb b k)) := cell_kept hK (HKEY.out k hlt) (by show w1.heap.size < _; rw [HS2.out]; omega) (by show ¬ w1.heap.size = _; omega)
      obtain ⟨c0, f0⟩ := blk_cell cX (2 * k) (by rw [row_size]; omega)
      obtain ⟨c1, f1⟩ := blk_cell cX (2 * k + 1) (by rw [row_size]; omega)
      generalize (row b k)[2 * k]'_ = v0 at *
      generalize (row b k)[2 * k + 1]'_ = v1 at *
      have CX := Lib.hid cX
      clear cX
      have hx1 : decide ((k : Int) < 8) = true := decide_eq_true (by omega)
      have hx2 : decide ((18 : Int) ≤ IntKind.i64.wrap (IntKind.i64.wrap (2 * (k : Int)) + 1)) = false := decide_eq_false (by rw [IntKind.wrap_i64, IntKind.wrap_i64]; omega)
      have hr := restv_range b k
      go_wp2
      simp only [hx_even, hx_odd]
      generalize hwq : (wr.setCell ⟨w.heap.size + 1, 2 * k, none⟩ (.int .i64 (hx b (2 * k)))).setCell ⟨w.heap.size + 1, 2 * k + 1, none⟩ (.int .i64 (hx b (2 * k + 1))) = wq
      have hX1 : wq.heap[w.heap.size + 1]? = some (.cells (row b (k + 1)) 57 (0, 0)) := by
        rw [← row_step b k hlt, ← hwq]
        exact set_blk (set_blk CX.out _ _) _ _
      have hK1 : Kept W0 wq (fun j => j = w.heap.size + 1) := by rw [← hwq]; exact (hK.setCell (.inl rfl) _).setCell (.inl rfl) _
      have hB1 : Below w.heap.size w wq := by rw [← hwq]; exact (hB.setCell (p := ⟨_, _, none⟩) (by show _ ≤ w.heap.size + 1; omega) _).setCell (p := ⟨_, _, none⟩) (by show _ ≤ w.heap.size + 1; omega) _
      have e0 : wq.cell? ⟨w.heap.size + 1, 2 * k, none⟩ = some (.int .i64 (hx b (2 * k))) := by
        rw [(blk_cell hX1 (2 * k) (by rw [row_size]; omega)).1]
        simp [row]
      have e1 : wq.cell? ⟨w.heap.size + 1, 2 * k + 1, none⟩ = some (.int .i64 (hx b (2 * k + 1))) := by
        rw [(blk_cell hX1 (2 * k + 1) (by rw [row_size]; omega)).1]
        simp [row]
        intro; omega
      have hr0 := hx_range b (2 * k)
      have hr1 := hx_range b (2 * k + 1)
      have HX1 := Lib.hid hX1
      have HK1 := Lib.hid hK1
      have HB1 := Lib.hid hB1
      have HEQ : Hid (restv b (k + 1) = restv b k + 15 - hx b (2 * k) + 15 - hx b (2 * k + 1)) := Lib.hid rfl
      clear hX1 hK1 hB1 hwq hK hB
      generalize hx b (2 * k) = x0 at *
      generalize hx b (2 * k + 1) = x1 at *
      generalize restv b k = r at *
      go_quiet (fail)
      unfold Exit.inBlock
      go_wp2
      go_roundw
      case rel =>
        refine ⟨k + 1, by omega, by go_num, ?_, HX1.out, HK1.out.drewN _, pw_below_drewN HB1.out _⟩
        rw [HEQ.out]
        congr 1
        omega
      case measure => simp [intOf]; omega
    · obtain rfl : k = 8 := by omega
      have hr := restv_range b 8
      have hand : bits .and .i64 (restv b 8) 15 = restv b 8 % 16 := bits_mask .i64 63 (by decide) (fun n h0 h1 => by rw [IntKind.wrap_i64]; omega) 4 (by decide) _ hr.1 (by omega)
      obtain ⟨y, hy⟩ : ∃ y, restv b 8 % 16 = y := ⟨_, rfl⟩
      rw [hy] at hand
      obtain ⟨Av, hAv⟩ : ∃ Av : Array Value, Av = #[.int .i64 (hx b 0), .int .i64 (hx b 1), .int .i64 (hx b 2), .int .i64 (hx b 3), .int .i64 (hx b 4), .int .i64 (hx b 5), .int .i64 (hx b 6), .int .i64 (hx b 7), .int .i64 (hx b 8), .int .i64 (hx b 9), .int .i64 (hx b 10), .int .i64 (hx b 11), .int .i64 (hx b 12), .int .i64 (hx b 13), .int .i64 (hx b 14), .int .i64 (hx b 15), .int .i64 (restv b 8 / 16), .int .i64 y] := ⟨_, rfl⟩
      rw [row8] at cX
      have hblk := set_blk (set_blk cX 16 (.int .i64 (restv b 8 / 16))) 17 (.int .i64 y)
      have eAv : (((#[.int .i64 (hx b 0), .int .i64 (hx b 1), .int .i64 (hx b 2), .int .i64 (hx b 3), .int .i64 (hx b 4), .int .i64 (hx b 5), .int .i64 (hx b 6), .int .i64 (hx b 7), .int .i64 (hx b 8), .int .i64 (hx b 9), .int .i64 (hx b 10), .int .i64 (hx b 11), .int .i64 (hx b 12), .int .i64 (hx b 13), .int .i64 (hx b 14), .int .i64 (hx b 15), .int .i64 0, .int .i64 0] : Array Value).setIfInBounds 16 (.int .i64 (restv b 8 / 16))).setIfInBounds 17 (.int .i64 y)) = Av := by rw [hAv]; rfl
      rw [eAv] at hblk
      have c16 : wr.cell? ⟨w.heap.size + 1, 16, none⟩ = some (.int .i64 0) := by simp [World.cell?, cX]
      have c17 : wr.cell? ⟨w.heap.size + 1, 17, none⟩ = some (.int .i64 0) := by simp [World.cell?, cX]
      have f16 : wr.frozen? ⟨w.heap.size + 1, 16, none⟩ = false := by simp [World.frozen?, cX]
      have f17 : wr.frozen? ⟨w.heap.size + 1, 17, none⟩ = false := by simp [World.frozen?, cX]
      have hra : ((wr.setCell ⟨w.heap.size + 1, 16, none⟩ (.int .i64 (restv b 8 / 16))).setCell ⟨w.heap.size + 1, 17, none⟩ (.int .i64 y)).rangeAt (w.heap.size + 1) 0 Av.toList := range_blk hblk
      have hin : (Try.prog.info? 57).map (·.size) = some Av.toList.length := by rw [hAv]; kernel_rfl
      have hin2 : (Try.prog.info? 57).map (·.size) = some Av.size := by rw [hAv]; kernel_rfl
      have hone : Av.all (·.oneCell') = true := by rw [hAv]; simp [Value.oneCell']
      have hM := (hK.2 w.heap.size (by rw [HS2.out]; omega) (by omega)).trans HY.out
      have hM1 : (((wr.setCell ⟨w.heap.size + 1, 16, none⟩ (.int .i64 (restv b 8 / 16))).setCell ⟨w.heap.size + 1, 17, none⟩ (.int .i64 y))).heap[w.heap.size]? = some (.cells (row b 0) 57 (0, 0)) := other_cell (other_cell hM (p := ⟨_, 16, none⟩) (by show w.heap.size ≠ w.heap.size + 1; omega) _) (p := ⟨_, 17, none⟩) (by show w.heap.size ≠ w.heap.size + 1; omega) _
      have hth : ((wr.setCell ⟨w.heap.size + 1, 16, none⟩ (.int .i64 (restv b 8 / 16))).setCell ⟨w.heap.size + 1, 17, none⟩ (.int .i64 y)).there w.heap.size 0 Av.size := by rw [hAv]; exact there_blk hM1 (by rw [row_size]; rfl)
      have HM1 := Lib.hid hM1
      have HAV := Lib.hid hAv
      have HY' := Lib.hid hy
      have HK8 := Lib.hid hK
      have HB8 := Lib.hid hB
      clear eAv hM hM1 hblk cX hAv hy hK hB
      have HRA := Lib.hid hra
      have HIN := Lib.hid hin
      have HIN2 := Lib.hid hin2
      have HTH := Lib.hid hth
      have HONE := Lib.hid hone
      clear hra hin hin2 hth hone
      go_wp2_with (first
        | (refine wpList_load_mid rfl 57 (.tmp 3) rfl (w.heap.size + 1) 0 rfl Av.toList _ HRA.out Try.underlying57 rfl HIN.out ?_)
        | (refine wpList_store_mid rfl 57 (.tmp 2) (.tmp 54) rfl w.heap.size 0 Av rfl rfl HTH.out HIN2.out HONE.out ?_))
      have hrs := World.rangeAt_setCells_same _ w.heap.size 0 Av.toList (by rw [Array.length_toList]; exact HTH.out)
      refine bodyPost_ret (v := .agg Av) ?_ rfl ⟨?_, below_cells (Nat.le_refl _) _ _ _ ((HB8.out.setCell (p := ⟨_, 16, none⟩) (by show _ ≤ w.heap.size + 1; omega) _).setCell (p := ⟨_, 17, none⟩) (by show _ ≤ w.heap.size + 1; omega) _)⟩
      · have := run_loadVar_mid (P := Try.prog) _ w.heap.size 0 57 Av.toList _ hrs Try.underlying57 rfl HIN.out
        simp [results, Try.results38, Act.put, asAddr, this]
      · rw [HAV.out, ← HBB.out, ← HY'.out]; rfl
end Go.Proofs.Ytoolionhheiihaa.Sg

/- sign: what the keys' leaves are; sign.leaves; sign.Public. -/
set_option linter.unusedVariables false
set_option linter.unusedSimpArgs false
namespace Go.Proofs.Ytoolionhheiihaa.Sg
open Go.RowKit Go.Proofs.YtoolionhheiihaaW.PrintWords Go.Proofs.YtoolionhheiihaaW.PrintLast Go.Proofs.YtoolionhheiihaaW.PrintMore Go.Proofs.Ytoolionhheiihaa.Dg Go.Proofs.Ytoolionhheiihaa.Gv Go.Proofs.Ytoolionhheiihaa.Pb Go.Proofs.Ytoolionhheiihaa.Gw Go.Proofs.Ytoolionhheiihaa.Pure
/-- The link 0 of a chain. -/
def startB (seed : ByteArray) (no c : Nat) : ByteArray := OfB ((TextB seed ++ IntB no) ++ IntB c)
theorem start_ev (seed : ByteArray) (hs : seed.size ≤ 9000) (no c : Nat) (hn : no ≤ 1000000) (hc : c ≤ 1000000) : Ev (fun k => startF k seed (no : Int) (c : Int)) (startB seed no c) := by
  have h1 := TextB_size seed hs
  have h2 := IntB_small (no : Int) (by omega) (by omega)
  have h3 := IntB_small (c : Int) (by omega) (by omega)
  unfold startF
  refine Ev.bind (wire_Text_ev seed hs) ?_
  refine Ev.bind (wire_Int_ev no (by omega) (by omega)) ?_
  refine Ev.bind (wire_Int_ev c (by omega) (by omega)) ?_
  exact evI (by omega) (Ev.now _)
theorem Ev.all {α : Type} {g : Nat → Nat → Option α} {r : Nat → α} : ∀ n : Nat, (∀ c, c < n → Ev (fun k => g k c) (r c)) → ∃ k, ∀ c, c < n → g k c = some (r c) := by
  intro n h
  suffices ∃ K, ∀ k, K ≤ k → ∀ c, c < n → g k c = some (r c) from this.elim fun K hK => ⟨K, hK K (Nat.le_refl _)⟩
  induction n with
  | zero => exact ⟨0, fun _ _ _ hc => absurd hc (Nat.not_lt_zero _)⟩
  | succ n ih =>
    obtain ⟨K, hK⟩ := ih (fun c hc => h c (by omega))
    obtain ⟨K', hK'⟩ := h n (by omega)
    refine ⟨max K K', fun k hk c hc => ?_⟩
    by_cases e : c = n
    · subst e; exact hK' k (by omega)
    · exact hK k (by omega) c (by omega)
def leafB (seed : ByteArray) (no : Nat) : ByteArray := OfB (ends (startB seed no) 18)
theorem start_calls (seed : ByteArray) (hs : seed.size ≤ 9000) (no c : Nat) (w : World) (hn : no ≤ 1000000) (hc : c ≤ 1000000) :
    Calls Try.prog 40 #[.agg #[.string seed, .int .i64 no], .int .i64 c] w fun e w' => e = .returned (.string (startB seed no c)) ∧ Below w.heap.size w w' := by
  obtain ⟨k, hk⟩ := (start_ev seed hs no c hn hc).rounds
  exact startF_calls k seed no c _ w hk
theorem leaf_calls (seed : ByteArray) (hs : seed.size ≤ 9000) (no : Nat) (w : World) (hn : no ≤ 1000000) :
    Calls Try.prog 66 #[.agg #[.string seed, .int .i64 no]] w fun e w' => e = .returned (.string (leafB seed no)) ∧ Below w.heap.size w w' := by
  obtain ⟨k, hk⟩ := Ev.all (g := fun k c => startF k seed (no : Int) ((c : Nat) : Int)) (r := startB seed no) 18 (fun c hc => start_ev seed hs no c hn (by omega))
  exact leaf_any k seed no (startB seed no) w hk
/-- The leaves of the first n keys. -/
def lvs (seed : ByteArray) (n : Nat) : List ByteArray := (List.range n).map (leafB seed)
theorem lvs_succ (seed : ByteArray) (n : Nat) : lvs seed (n + 1) = lvs seed n ++ [leafB seed n] := by
  simp [lvs, List.range_succ]
theorem lvs_length (seed : ByteArray) (n : Nat) : (lvs seed n).length = n := by simp [lvs]
theorem lvs_small (seed : ByteArray) (n : Nat) : ∀ s ∈ lvs seed n, s.size = 8 := by
  intro s hs
  obtain ⟨j, _, rfl⟩ := List.mem_map.1 hs
  exact OfB_size _
set_option maxRecDepth 100000 in
set_option maxHeartbeats 1000000 in
theorem leaves_calls (seed : ByteArray) (hs : seed.size ≤ 9000) (n : Nat) (w : World) (hn : n ≤ 65536) :
    Calls Try.prog 35 #[.string seed, .int .i64 n] w fun e w' => ∃ v, e = .returned v ∧ Kd.R Kd.string 9 w' w.heap.size (fun _ => True) v (lvs seed n) ∧ Below w.heap.size w w' := by
  go_enter Try.func35, Try.ntmps35
  go_wp2
  go_loopw [5, 6, 8] (fun v _ i wr => ∃ m : Nat, m ≤ n ∧ i = .int .i64 m ∧ Kd.R Kd.string 9 wr w.heap.size (fun _ => True) v (lvs seed m) ∧ Below w.heap.size w wr) (fun _ _ i _ => n - (intOf i).toNat)
  case atStart => exact ⟨0, by omega, rfl, Kd.R_nil _ _ _ _ _, Below.refl _ _⟩
  case round =>
    obtain ⟨m, hm, rfl, hR, hB⟩ := hrel
    have HR := Lib.hid hR
    have HB := Lib.hid hB
    have HL := Lib.hid (lvs_length seed m)
    clear hR hB
    by_cases hlt : m < n
    · have hx1 : decide ((m : Int) < (n : Int)) = true := decide_eq_true (by omega)
      have hx2 : decide (m < n) = true := decide_eq_true (by omega)
      go_wp2_with (first
        | (go_at_call 66; with_reducible refine (leaf_calls seed hs m _ (by omega)).mono ?_; rintro e w3 ⟨rfl, hb3⟩; have HR3 := Lib.hid (Kd.R_below HR.out hb3); have HB3 := Lib.hid (HB.out.trans (hb3.mono HB.out.size)); clear hb3)
        | ((with_reducible refine gate_builtin (b := .append) (xs := #[.tmp 11, .tmp 16]) rfl ?_); at_builtin; refine Kd.R_append Kd.string (w0 := w) w.heap.size rfl (.tmp 11) (.tmp 16) 42 9 (.string ⟨#[]⟩) 16 rfl Try.underlying42 info9 rfl (by decide) (by omega) u5 (lvs seed m) (leafB seed m) [.string (leafB seed m)] (fun _ => True) (fun _ => False) rfl rfl ?aP (fun _ hk => hk.elim) ?aF ?aO ?aB ?aS ?aL ?_; (case aP => exact rfl); (case aF => exact (fun _ _ => trivial)); (case aO => exact HR3.out); (case aB => exact HB3.out); (case aS => exact HB3.out.size); (case aL => rw [HL.out]; omega); intro v9 w9 ho9 hb9 hg9 hat9; have HO9 := Lib.hid ho9; have HB9 := Lib.hid hb9; clear ho9 hb9 hg9 hat9))
      go_roundw
      case rel => exact ⟨m + 1, by omega, by go_num, by rw [lvs_succ]; exact HO9.out, HB9.out⟩
      case measure => simp [intOf]; omega
    · obtain rfl : m = n := by omega
      have hx1 : decide ((m : Int) < (m : Int)) = false := by simp
      have hx2 : decide (m < m) = false := by simp
      go_wp2
      go_ret
      exact ⟨_, rfl, HR.out, HB.out⟩
/-- What sign.Public answers. -/
def PubB (seed : ByteArray) (n : Nat) : ByteArray := RootF (lvs seed n)
theorem root_lvs (seed : ByteArray) (n : Nat) (hn : n ≤ 65536) : digest_Root.f (lvs seed n) = some (PubB seed n) := by
  refine if_pos ⟨by rw [lvs_length]; omega, ?_⟩
  exact List.all_eq_true.2 fun s hs => decide_eq_true (by rw [lvs_small seed n s hs]; omega)
theorem proof_lvs (seed : ByteArray) (n : Nat) (hn : n ≤ 65536) (i : Int) : digest_Proof.f (lvs seed n) i = some (ProofF (lvs seed n) i) := by
  refine if_pos ⟨by rw [lvs_length]; omega, ?_⟩
  exact List.all_eq_true.2 fun s hs => decide_eq_true (by rw [lvs_small seed n s hs]; omega)
set_option maxRecDepth 100000 in
set_option maxHeartbeats 1000000 in
theorem Public_yes (seed : ByteArray) (hs : seed.size ≤ 9000) (n : Nat) (w : World) (h1 : 1 ≤ n) (hn : n ≤ 16) :
    Calls Try.prog 13 #[.string seed, .int .i64 n] w fun e w' => e = .returned (.tuple #[.string (PubB seed n), .int .i64 0]) ∧ Below w.heap.size w w' := by
  have HRT := Lib.hid (root_lvs seed n (by omega))
  have hx1 : decide ((n : Int) < 1) = false := decide_eq_false (by omega)
  have hx2 : decide ((16 : Int) < (n : Int)) = false := decide_eq_false (by omega)
  have hx3 : decide (n < 1) = false := decide_eq_false (by omega)
  have hx4 : decide (16 < n) = false := decide_eq_false (by omega)
  go_enter Try.func13, Try.ntmps13
  go_wp2_with (first
    | (go_at_call 35; with_reducible refine (leaves_calls seed hs n _ (by omega)).mono ?_; rintro e w3 ⟨v, rfl, hR, hb3⟩; obtain ⟨A3, c3, rfl, hl3, hC3⟩ := Kd.R_reads hR; have HC3 := Lib.hid hC3; have HL3 := Lib.hid hl3; have HB3 := Lib.hid hb3; clear hb3 hR hC3 hl3)
    | (go_at_call 34; with_reducible refine (digest_Root.calls A3 c3 (lvs seed n) (PubB seed n) _ HC3.out HL3.out HRT.out).mono ?_; rintro e w4 ⟨rfl, hb4⟩; have HB4 := Lib.hid (HB3.out.trans (hb4.mono HB3.out.size)); clear hb4))
  go_ret2
  exact ⟨rfl, HB4.out⟩
set_option maxRecDepth 100000 in
set_option maxHeartbeats 1000000 in
theorem Public_no (seed : ByteArray) (n : Int) (w : World) (h : n < 1 ∨ 16 < n) :
    Calls Try.prog 13 #[.string seed, .int .i64 n] w fun e w' => e = .returned (.tuple #[.string ⟨#[]⟩, .int .i64 1]) ∧ Below w.heap.size w w' := by
  by_cases h1 : n < 1
  · have hx1 : decide (n < 1) = true := decide_eq_true h1
    go_enter Try.func13, Try.ntmps13
    go_wp2
    go_ret2
    exact ⟨rfl, Below.refl _ _⟩
  · have hx1 : decide (n < 1) = false := decide_eq_false h1
    have hx2 : decide (16 < n) = true := decide_eq_true (by omega)
    clear h
    go_enter Try.func13, Try.ntmps13
    go_wp2
    go_ret2
    exact ⟨rfl, Below.refl _ _⟩
end Go.Proofs.Ytoolionhheiihaa.Sg

/- sign.Sign. -/
set_option linter.unusedVariables false
set_option linter.unusedSimpArgs false
namespace Go.Proofs.Ytoolionhheiihaa.Sg
open Go.RowKit Go.Proofs.YtoolionhheiihaaW.PrintWords Go.Proofs.YtoolionhheiihaaW.PrintLast Go.Proofs.YtoolionhheiihaaW.PrintMore Go.Proofs.Ytoolionhheiihaa.Dg Go.Proofs.Ytoolionhheiihaa.Gv Go.Proofs.Ytoolionhheiihaa.Pb Go.Proofs.Ytoolionhheiihaa.Gw Go.Proofs.Ytoolionhheiihaa.Pure
/-- Digit k of a sum. -/
def dgt (b : ByteArray) (k : Nat) : Int := if k < 16 then hx b k else if k = 16 then restv b 8 / 16 else restv b 8 % 16
theorem dgt_range (b : ByteArray) (k : Nat) : 0 ≤ dgt b k ∧ dgt b k ≤ 15 := by
  have h1 := hx_range b k
  have h2 := restv_range b 8
  unfold dgt
  split
  · exact h1
  · split <;> omega
theorem idx_dig (b : ByteArray) (w : World) : ∀ k : Nat, k < 18 → (Instr.index 57 (digV b) (.int .i64 k)).run Try.prog w = .ok (.int .i64 (dgt b k)) w
  | 0, _ => by kernel_rfl
  | 1, _ => by kernel_rfl
  | 2, _ => by kernel_rfl
  | 3, _ => by kernel_rfl
  | 4, _ => by kernel_rfl
  | 5, _ => by kernel_rfl
  | 6, _ => by kernel_rfl
  | 7, _ => by kernel_rfl
  | 8, _ => by kernel_rfl
  | 9, _ => by kernel_rfl
  | 10, _ => by kernel_rfl
  | 11, _ => by kernel_rfl
  | 12, _ => by kernel_rfl
  | 13, _ => by kernel_rfl
  | 14, _ => by kernel_rfl
  | 15, _ => by kernel_rfl
  | 16, _ => by kernel_rfl
  | 17, _ => by kernel_rfl
  | k + 18, h => absurd h (by omega)
/-- The links that sign a message, of the first c chains. -/
def sgs (seed : ByteArray) (i : Nat) (b : ByteArray) (c : Nat) : List ByteArray := (List.range c).map fun c => lnk (startB seed i c) (dgt b c).toNat
theorem sgs_succ (seed : ByteArray) (i : Nat) (b : ByteArray) (c : Nat) : sgs seed i b (c + 1) = sgs seed i b c ++ [lnk (startB seed i c) (dgt b c).toNat] := by
  simp [sgs, List.range_succ]
theorem sgs_length (seed : ByteArray) (i : Nat) (b : ByteArray) (c : Nat) : (sgs seed i b c).length = c := by simp [sgs]
theorem lnk_size8 (s : ByteArray) (h : s.size = 8) (n : Nat) : (lnk s n).size = 8 := by
  cases n with
  | zero => exact h
  | succ n => exact OfB_size _
theorem sgs_size (seed : ByteArray) (i : Nat) (b : ByteArray) (c : Nat) : ∀ s ∈ sgs seed i b c, s.size = 8 := by
  intro s hs
  obtain ⟨j, _, rfl⟩ := List.mem_map.1 hs
  exact lnk_size8 _ (OfB_size _) _
theorem link_to (s : ByteArray) (d : Int) (w : World) (h0 : 0 ≤ d) (h1 : d ≤ 15) (hs : s.size ≤ 9223372036854775807) :
    Calls Try.prog 39 #[.string s, .int .i64 0, .int .i64 d] w fun e w' => e = .returned (.string (lnk s d.toNat)) ∧ Below w.heap.size w w' := by
  have := link_any s 0 d w (by omega) (by omega) (by omega) hs
  rwa [show d - 0 = d from Int.sub_zero d] at this
theorem texts_calls (l : List ByteArray) (hl : l.length ≤ 1000) (h : ∀ s ∈ l, s.size ≤ 9000) (A : Option Addr) (c : Nat) (w : World) (hC : Kd.C Kd.string w A l.length l) (hc : l.length ≤ c) :
    Calls Try.prog 42 #[.slice A l.length c] w fun e w' => e = .returned (.string (TextsB l)) ∧ Below w.heap.size w w' := by
  obtain ⟨k, hk⟩ := (wire_Texts_ev l hl h).rounds
  exact wire_Texts.calls k A c l _ w hC hc hk
theorem int_calls (n : Int) (h0 : -9223372036854775808 ≤ n) (h1 : n ≤ 9223372036854775807) (w : World) :
    Calls Try.prog 41 #[.int .i64 n] w fun e w' => e = .returned (.string (IntB n)) ∧ Below w.heap.size w w' := by
  obtain ⟨k, hk⟩ := (wire_Int_ev n h0 h1).rounds
  exact wire_Int.calls k n _ w hk
/-- What sign.Sign answers. -/
def SigB (seed : ByteArray) (n i : Nat) (msg : ByteArray) : ByteArray := (IntB i ++ TextsB (sgs seed i (OfB msg) 18)) ++ TextsB (ProofF (lvs seed n) i)
theorem TextsB_size (l : List ByteArray) (hl : l.length ≤ 1000) (h : ∀ s ∈ l, s.size ≤ 8) : (TextsB l).size ≤ 10 + l.length * 18 :=
  Nat.le_trans (join_size TextB 18 l _ (fun x hx => by have := h x hx; have := TextB_size x (by omega); omega)) (by have := IntB_small (l.length : Int) (by omega) (by omega); omega)
theorem ProofF_lvs (seed : ByteArray) (n : Nat) (h1 : 1 ≤ n) (hn : n ≤ 16) (i : Nat) : (ProofF (lvs seed n) i).length ≤ 5 ∧ ∀ s ∈ ProofF (lvs seed n) i, s.size ≤ 8 := by
  refine ⟨PureD.ProofF_len _ (by rw [lvs_length]; omega) _, ?_⟩
  unfold ProofF
  split
  · simp
  · intro s hs
    obtain ⟨k, _, rfl⟩ := List.mem_map.1 hs
    rw [List.getD_eq_getElem?_getD]
    cases he : (lev (fill (lvs seed n) (2 ^ hof (lvs seed n).length)) k)[nb ((i : Int).toNat / 2 ^ k)]? with
    | none => exact Nat.zero_le _
    | some x =>
      have hx := List.mem_of_getElem? he
      cases k with
      | zero =>
        rcases List.mem_append.1 hx with h | h
        · exact Nat.le_of_eq (lvs_small seed n _ h)
        · rw [(List.mem_replicate.1 h).2]; exact Nat.zero_le _
      | succ k =>
        obtain ⟨j, _, rfl⟩ := List.mem_map.1 hx
        exact Nat.le_of_eq (OfB_size _)
set_option maxRecDepth 100000 in
set_option maxHeartbeats 1000000 in
theorem Sign_yes (seed : ByteArray) (hs : seed.size ≤ 9000) (n i : Nat) (msg : ByteArray) (hm : msg.size ≤ 9223372036854775807) (w : World) (h1 : 1 ≤ n) (hn : n ≤ 16) (hi : i < n) :
    Calls Try.prog 15 #[.string seed, .int .i64 n, .int .i64 i, .string msg] w fun e w' => e = .returned (.tuple #[.string (SigB seed n i msg), .int .i64 0]) ∧ Below w.heap.size w w' := by
  have HPF := Lib.hid (proof_lvs seed n (by omega) i)
  obtain ⟨P, hP⟩ : ∃ P, P = ProofF (lvs seed n) i := ⟨_, rfl⟩
  have hPl := ProofF_lvs seed n h1 hn i
  rw [← hP] at hPl
  obtain ⟨hPl, hPs⟩ := hPl
  have HPS := Lib.hid hPs
  have HP := Lib.hid hP
  obtain ⟨b, hb⟩ : ∃ b, b = OfB msg := ⟨_, rfl⟩
  have HBM := Lib.hid hb
  have hx1 : decide ((n : Int) < 1) = false := decide_eq_false (by omega)
  have hx2 : decide ((16 : Int) < (n : Int)) = false := decide_eq_false (by omega)
  have hx3 : decide (n < 1) = false := decide_eq_false (by omega)
  have hx4 : decide (16 < n) = false := decide_eq_false (by omega)
  have hx5 : decide ((i : Int) < 0) = false := decide_eq_false (by omega)
  have hx6 : decide ((n : Int) ≤ (i : Int)) = false := decide_eq_false (by omega)
  have hx7 : decide (n ≤ i) = false := decide_eq_false (by omega)
  clear hPs hP hb
  go_enter Try.func15, Try.ntmps15
  go_wp2_with (go_at_call 38; with_reducible refine (of_any msg _ hm).mono ?_; rw [← HBM.out]; rintro e w1 ⟨rfl, hb1⟩; have HB1 := Lib.hid hb1; clear hb1)
  clear hx1 hx2 hx3 hx4 hx5 hx6 hx7
  go_loopw [10, 11, 12, 30] (fun v _ _ k wr => ∃ c : Nat, c ≤ 18 ∧ k = .int .i64 c ∧ Kd.R Kd.string 9 wr w.heap.size (fun _ => True) v (sgs seed i b c) ∧ Below w.heap.size w wr) (fun _ _ _ k _ => 18 - (intOf k).toNat)
  case atStart => exact ⟨0, by omega, rfl, Kd.R_nil _ _ _ _ _, HB1.out⟩
  case round =>
    obtain ⟨c, hc, rfl, hR, hB⟩ := hrel
    have HR := Lib.hid hR
    have HB := Lib.hid hB
    have HL := Lib.hid (sgs_length seed i b c)
    clear hR hB
    by_cases hlt : c < 18
    · have hx1 : decide ((c : Int) < 18) = true := decide_eq_true (by omega)
      have hidx := fun w => idx_dig b w c hlt
      have hr := dgt_range b c
      have HST := Lib.hid (show (startB seed i c).size = 8 from OfB_size _)
      go_wp2_with (first
        | (go_at_call 40; with_reducible refine (start_calls seed hs i c _ (by omega) (by omega)).mono ?_; rintro e w3 ⟨rfl, hb3⟩; have HR3 := Lib.hid (Kd.R_below HR.out hb3); have HB3 := Lib.hid (HB.out.trans (hb3.mono HB.out.size)); clear hb3)
        | (go_at_call 39; with_reducible refine (link_to (startB seed i c) (dgt b c) _ hr.1 hr.2 (by have := HST.out; omega)).mono ?_; rintro e w4 ⟨rfl, hb4⟩; have HR4 := Lib.hid (Kd.R_below HR3.out hb4); have HB4 := Lib.hid (HB3.out.trans (hb4.mono HB3.out.size)); clear hb4)
        | ((with_reducible refine gate_builtin (b := .append) (xs := #[.tmp 34, .tmp 42]) rfl ?_); at_builtin; refine Kd.R_append Kd.string (w0 := w) w.heap.size rfl (.tmp 34) (.tmp 42) 42 9 (.string ⟨#[]⟩) 16 rfl Try.underlying42 info9 rfl (by decide) (by omega) u10 (sgs seed i b c) (lnk (startB seed i c) (dgt b c).toNat) [.string (lnk (startB seed i c) (dgt b c).toNat)] (fun _ => True) (fun _ => False) rfl rfl ?aP (fun _ hk => hk.elim) ?aF ?aO ?aB ?aS ?aL ?_; (case aP => exact rfl); (case aF => exact (fun _ _ => trivial)); (case aO => exact HR4.out); (case aB => exact HB4.out); (case aS => exact HB4.out.size); (case aL => rw [HL.out]; omega); intro v9 w9 ho9 hb9 hg9 hat9; have HO9 := Lib.hid ho9; have HB9 := Lib.hid hb9; clear ho9 hb9 hg9 hat9))
      go_roundw
      case rel => exact ⟨c + 1, by omega, by go_num, by rw [sgs_succ]; exact HO9.out, HB9.out⟩
      case measure => simp [intOf]; omega
    · obtain rfl : c = 18 := by omega
      have hx1 : decide (((18 : Nat) : Int) < 18) = false := by decide
      obtain ⟨A, cp, rfl, hcl, hC⟩ := Kd.R_reads HR.out
      have HLL := Lib.hid (sgs_length seed i b 18)
      have HLS := Lib.hid (sgs_size seed i b 18)
      obtain ⟨L, hL⟩ : ∃ L, L = sgs seed i b 18 := ⟨_, rfl⟩
      rw [← hL] at hC hcl HLL HLS ⊢
      have HLD := Lib.hid hL
      have HC := Lib.hid hC
      have HCL := Lib.hid hcl
      have zi := IntB_small (i : Int) (by omega) (by omega)
      have zl := TextsB_size L (by rw [HLL.out]; omega) (fun s hs => Nat.le_of_eq (HLS.out s hs))
      rw [HLL.out] at zl
      have zp := TextsB_size P (by omega) HPS.out
      have z1 : ((IntB i).size + (TextsB L).size ≤ 9223372036854775807) = True := eq_true (by omega)
      have z2 : (9223372036854775807 < (IntB i).size + (TextsB L).size) = False := eq_false (by omega)
      have z3 : ((IntB i ++ TextsB L).size + (TextsB P).size ≤ 9223372036854775807) = True := eq_true (by simp only [ByteArray.size_append]; omega)
      have z4 : (9223372036854775807 < (IntB i ++ TextsB L).size + (TextsB P).size) = False := eq_false (by simp only [ByteArray.size_append]; omega)
      have z5 : (9223372036854775807 < (IntB i).size + (TextsB L).size + (TextsB P).size) = False := eq_false (by omega)
      have z6 : ((IntB i).size + (TextsB L).size + (TextsB P).size ≤ 9223372036854775807) = True := eq_true (by omega)
      clear zi zl hC hcl hL
      go_wp2_with (first
        | (go_at_call 41; with_reducible refine (int_calls i (by omega) (by omega) _).mono ?_; rintro e w3 ⟨rfl, hb3⟩; have HC3 := Lib.hid (Kd.C_below HC.out hb3); have HB3 := Lib.hid (HB.out.trans (hb3.mono HB.out.size)); clear hb3)
        | (go_at_call 42; (first
            | (with_reducible refine (texts_calls L (by rw [HLL.out]; omega) (fun s hs => by rw [HLS.out s hs]; omega) A cp _ HC3.out HCL.out).mono ?_; rintro e w4 ⟨rfl, hb4⟩; have HB4 := Lib.hid (HB3.out.trans (hb4.mono HB3.out.size)); clear hb4)
            | (with_reducible refine (texts_calls P (by omega) (fun s hs => Nat.le_trans (HPS.out s hs) (by omega)) A6 c6 _ HC6.out HL6.out).mono ?_; rintro e w7 ⟨rfl, hb7⟩; have HB7 := Lib.hid (HB6.out.trans (hb7.mono HB6.out.size)); clear hb7)))
        | (go_at_call 35; with_reducible refine (leaves_calls seed hs n _ (by omega)).mono ?_; rintro e w5 ⟨v5, rfl, hR5, hb5⟩; obtain ⟨A5, c5, rfl, hl5, hC5⟩ := Kd.R_reads hR5; have HC5 := Lib.hid hC5; have HL5 := Lib.hid hl5; have HB5 := Lib.hid (HB4.out.trans (hb5.mono HB4.out.size)); clear hb5 hR5 hC5 hl5)
        | (go_at_call 43; with_reducible refine (digest_Proof.calls A5 c5 (lvs seed n) i P _ HC5.out HL5.out (by rw [HP.out]; exact HPF.out)).mono ?_; rintro e w6 ⟨v6, rfl, hR6, hb6⟩; obtain ⟨A6, c6, rfl, hl6, hC6⟩ := Kd.R_reads hR6; have HC6 := Lib.hid hC6; have HL6 := Lib.hid hl6; have HB6 := Lib.hid (HB5.out.trans (hb6.mono HB5.out.size)); clear hb6 hR6 hC6 hl6))
      have e : SigB seed n i msg = (IntB i ++ TextsB L) ++ TextsB P := by rw [SigB, ← HP.out, ← HBM.out, ← HLD.out]
      go_ret2
      exact ⟨by rw [e]; rfl, HB7.out⟩
theorem Sign_no (seed : ByteArray) (n i : Int) (msg : ByteArray) (w : World) (h : n < 1 ∨ 16 < n ∨ i < 0 ∨ n ≤ i) :
    Calls Try.prog 15 #[.string seed, .int .i64 n, .int .i64 i, .string msg] w fun e w' => e = .returned (.tuple #[.string ⟨#[]⟩, .int .i64 1]) ∧ Below w.heap.size w w' := by
  by_cases h1 : n < 1
  · have hx1 : decide (n < 1) = true := decide_eq_true h1
    clear h
    go_enter Try.func15, Try.ntmps15
    go_wp2
    go_ret2
    exact ⟨rfl, Below.refl _ _⟩
  · have hx1 : decide (n < 1) = false := decide_eq_false h1
    by_cases h2 : 16 < n
    · have hx2 : decide (16 < n) = true := decide_eq_true h2
      clear h
      go_enter Try.func15, Try.ntmps15
      go_wp2
      go_ret2
      exact ⟨rfl, Below.refl _ _⟩
    · have hx2 : decide (16 < n) = false := decide_eq_false h2
      by_cases h3 : i < 0
      · have hx3 : decide (i < 0) = true := decide_eq_true h3
        clear h
        go_enter Try.func15, Try.ntmps15
        go_wp2
        go_ret2
        exact ⟨rfl, Below.refl _ _⟩
      · have hx3 : decide (i < 0) = false := decide_eq_false h3
        have hx4 : decide (n ≤ i) = true := decide_eq_true (by omega)
        clear h
        go_enter Try.func15, Try.ntmps15
        go_wp2
        go_ret2
        exact ⟨rfl, Below.refl _ _⟩
end Go.Proofs.Ytoolionhheiihaa.Sg

/- sign.Check. -/
set_option linter.unusedVariables false
set_option linter.unusedSimpArgs false
namespace Go.Proofs.Ytoolionhheiihaa.Sg
open Go.RowKit Go.Proofs.YtoolionhheiihaaW.PrintWords Go.Proofs.YtoolionhheiihaaW.PrintLast Go.Proofs.YtoolionhheiihaaW.PrintMore Go.Proofs.Ytoolionhheiihaa.Dg Go.Proofs.Ytoolionhheiihaa.Gv Go.Proofs.Ytoolionhheiihaa.Pb Go.Proofs.Ytoolionhheiihaa.Gw Go.Proofs.Ytoolionhheiihaa.Pure
/-- The digits as cells. -/
def digA (b : ByteArray) : Array Value := #[.int .i64 (dgt b 0), .int .i64 (dgt b 1), .int .i64 (dgt b 2), .int .i64 (dgt b 3), .int .i64 (dgt b 4), .int .i64 (dgt b 5), .int .i64 (dgt b 6), .int .i64 (dgt b 7), .int .i64 (dgt b 8), .int .i64 (dgt b 9), .int .i64 (dgt b 10), .int .i64 (dgt b 11), .int .i64 (dgt b 12), .int .i64 (dgt b 13), .int .i64 (dgt b 14), .int .i64 (dgt b 15), .int .i64 (dgt b 16), .int .i64 (dgt b 17)]
theorem digV_A (b : ByteArray) : digV b = .agg (digA b) := rfl
abbrev zeroA : Array Value := #[.int .i64 0, .int .i64 0, .int .i64 0, .int .i64 0, .int .i64 0, .int .i64 0, .int .i64 0, .int .i64 0, .int .i64 0, .int .i64 0, .int .i64 0, .int .i64 0, .int .i64 0, .int .i64 0, .int .i64 0, .int .i64 0, .int .i64 0, .int .i64 0]
theorem range_keep {w w' : World} {D o g : Nat} {cs : List Value} (h : w.rangeAt D o cs) (hk : KeepBut w w' g none) (hne : D ≠ g) : w'.rangeAt D o cs := fun j v hv => by
  have h1 := h j v hv
  have hlt := World.block_lt_of_cell? _ _ h1
  rw [← h1]
  simp only [World.cell?, hk.2 D hlt hne (by simp)]
def arrI (l : List Int) : Array Value := (l.map (Value.int .i64)).toArray
theorem eqItems_i64 (W : World) (xs ys : List Int) (d : Nat) : ∀ is : List Nat, (∀ i ∈ is, i < xs.length ∧ i < ys.length) →
    (Op.eqItems (d + 1) 3 1 (arrI xs) (arrI ys) is).run Try.prog W = .ok (is.all fun i => xs.getD i 0 == ys.getD i 0) W := by
  intro is
  induction is with
  | nil => intro _; simp [Op.eqItems]
  | cons i is ih =>
    intro h
    obtain ⟨h1, h2⟩ := h i (by simp)
    have ih' := ih (fun j hj => h j (by simp [hj]))
    have hk : Try.prog.plainKey 3 = true := by kernel_rfl
    have p1 : (part 3 (arrI xs) (i * 1)).run Try.prog W = .ok (.int .i64 (xs.getD i 0)) W := run_part_plain W hk (by simp [arrI, h1])
    have p2 : (part 3 (arrI ys) (i * 1)).run Try.prog W = .ok (.int .i64 (ys.getD i 0)) W := run_part_plain W hk (by simp [arrI, h2])
    have p3 := run_equalIn_int (P := Try.prog) W d 3 .i64 .i64 (xs.getD i 0) (ys.getD i 0) Try.underlying3
    rw [Op.eqItems]
    simp only [Sem.run_bind, p1, p2, p3, Result.andThen_ok, List.all_cons]
    cases hb : (xs.getD i 0 == ys.getD i 0)
    · simp
    · simpa using ih'
theorem digits_some (b : ByteArray) : ¬ ∀ i, i < 18 → dgt b i = 0 := by
  intro h
  have h0 : ∀ i, i < 16 → hx b i = 0 := fun i hi => by have := h i (by omega); rwa [dgt, if_pos hi] at this
  have h1 := h 16 (by omega)
  have e : restv b 8 = 240 := by
    simp [restv, h0 0 (by omega), h0 1 (by omega), h0 2 (by omega), h0 3 (by omega), h0 4 (by omega), h0 5 (by omega), h0 6 (by omega), h0 7 (by omega), h0 8 (by omega), h0 9 (by omega), h0 10 (by omega), h0 11 (by omega), h0 12 (by omega), h0 13 (by omega), h0 14 (by omega), h0 15 (by omega)]
  rw [dgt, if_neg (by omega), if_pos rfl, e] at h1
  omega
set_option maxRecDepth 100000 in
theorem dig_zero (W : World) (b : ByteArray) : (Op.equalIn 10000 57 (.agg (digA b)) (.agg zeroA)).run Try.prog W = .ok false W := by
  obtain ⟨i, hi⟩ : ∃ i, Try.prog.info? 3 = some i := ⟨_, rfl⟩
  have hc : Try.prog.cellsOf 3 = 1 := by kernel_rfl
  have h := run_equalIn_array (P := Try.prog) W 9999 (arrI ((List.range 18).map (dgt b))) (arrI (List.replicate 18 0)) Try.underlying57 hi
  rw [hc, eqItems_i64 W _ _ 9998 _ (by intro i hi; simp at hi ⊢; omega)] at h
  refine h.trans ?_
  congr 1
  rw [Bool.eq_false_iff]
  intro ha
  refine digits_some b fun i hi => ?_
  have := List.all_eq_true.1 ha i (by simpa using hi)
  rw [show (List.replicate 18 (0 : Int)).getD i 0 = 0 by rw [List.getD_eq_getElem?_getD, List.getElem?_replicate]; split <;> rfl] at this
  simpa [List.getD_eq_getElem?_getD, hi] using this
/-- What comes behind the given links. -/
def ends2 (l : List ByteArray) (b : ByteArray) : Nat → ByteArray
  | 0 => ⟨#[]⟩
  | n + 1 => ends2 l b n ++ lnk (l.getD n ⟨#[]⟩) (15 - dgt b n).toNat
theorem ends2_size (l : List ByteArray) (b : ByteArray) (n : Nat) (h : ∀ j, j < n → (l.getD j ⟨#[]⟩).size = 8) : (ends2 l b n).size = 8 * n := by
  induction n with
  | zero => rfl
  | succ n ih => rw [ends2, ByteArray.size_append, ih (fun j hj => h j (by omega)), lnk_size8 _ (h n (by omega))]; omega
theorem digA_get (b : ByteArray) : ∀ n : Nat, n < 18 → (digA b).toList[n]? = some (.int .i64 (dgt b n))
  | 0, _ => rfl
  | 1, _ => rfl
  | 2, _ => rfl
  | 3, _ => rfl
  | 4, _ => rfl
  | 5, _ => rfl
  | 6, _ => rfl
  | 7, _ => rfl
  | 8, _ => rfl
  | 9, _ => rfl
  | 10, _ => rfl
  | 11, _ => rfl
  | 12, _ => rfl
  | 13, _ => rfl
  | 14, _ => rfl
  | 15, _ => rfl
  | 16, _ => rfl
  | 17, _ => rfl
  | n + 18, h => absurd h (by omega)
/-- What sign.Check answers, of what is read. -/
def chkF (pub msg : ByteArray) (i : Int) (l P : List ByteArray) (q : ByteArray) (bad : Bool) : Bool :=
  if bad = false ∧ q.size = 0 ∧ l.length = 18 ∧ (∀ s ∈ l, s.size = 8) then VerifyF pub (OfB (ends2 l (OfB msg) 18)) i P else false
set_option maxRecDepth 100000 in
set_option maxHeartbeats 1000000 in
theorem Check_any (k : Nat) (pub msg sig : ByteArray) (i : Int) (l P : List ByteArray) (q1 q2 q3 : ByteArray) (b1 b2 b3 : Bool) (w : World) (hm : msg.size ≤ 9223372036854775807)
    (h1 : wire_Reader_Int.f k sig false = some (i, q1, b1)) (h2 : wire_Reader_Texts.f k q1 b1 = some (l, q2, b2)) (h3 : wire_Reader_Texts.f k q2 b2 = some (P, q3, b3))
    (hi : i ≤ 9223372036854775807) (hP : ∀ s ∈ P, s.size ≤ 9223372036854775807) :
    Calls Try.prog 18 #[.string pub, .string msg, .string sig] w fun e w' => e = .returned (.bool (chkF pub msg i l P q3 b3)) ∧ Below w.heap.size w w' := by
  have H1 := Lib.hid h1
  have H2 := Lib.hid h2
  have H3 := Lib.hid h3
  have HP := Lib.hid hP
  obtain ⟨b, hb⟩ : ∃ b, b = OfB msg := ⟨_, rfl⟩
  have HBM := Lib.hid hb
  have hin2 : (Try.prog.info? 57).map (·.size) = some (digA b).size := by kernel_rfl
  have hone : (digA b).all (·.oneCell') = true := by simp [digA, Value.oneCell']
  have HIN2 := Lib.hid hin2
  have HONE := Lib.hid hone
  clear h1 h2 h3 hP hb hin2 hone
  go_enter Try.func18, Try.ntmps18
  go_wp2_with (first
    | (go_at_call 19; with_reducible refine (wire_New.calls sig sig false w _ (Below.refl _ _) rfl).mono ?_; rintro e w1 ⟨g, rfl, hi1, hb1, -⟩; have HI1 := Lib.hid hi1; have HB1 := Lib.hid hb1; clear hi1 hb1)
    | (go_at_call 20; with_reducible refine (wire_Reader_Int.calls k g sig false i q1 b1 w _ HI1.out HB1.out H1.out).mono ?_; rintro e w2 ⟨rfl, hi2, hb2, -⟩; have HI2 := Lib.hid hi2; have HB2 := Lib.hid hb2; clear hi2 hb2)
    | (go_at_call 21; (first
      | (with_reducible refine (wire_Reader_Texts.calls k g q1 b1 l q2 b2 w _ HI2.out HB2.out H2.out).mono ?_; rintro e w3 ⟨v3, rfl, hR3, hi3, hb3, -⟩; have HI3 := Lib.hid hi3; have HB3 := Lib.hid hb3; have HR3 := Lib.hid hR3; clear hi3 hb3 hR3)
      | (with_reducible refine (wire_Reader_Texts.calls k g q2 b2 P q3 b3 w _ HI3.out HB3.out H3.out).mono ?_; rintro e w4 ⟨v4, rfl, hR4, hi4, hb4, hk4⟩; have HI4 := Lib.hid hi4; have HB4 := Lib.hid hb4; have HR4 := Lib.hid hR4; have HR34 := Lib.hid (R_past HI3.out HR3.out (by decide) hk4); clear hi4 hb4 hR4 hk4)))
    | (go_at_call 38; with_reducible refine (of_any msg _ hm).mono ?_; rw [← HBM.out, digV_A]; rintro e w5 ⟨rfl, hb5⟩; have HB5 := Lib.hid hb5; clear hb5)
    | (refine wpList_store_mid rfl 57 (.tmp 11) (.tmp 24) rfl w5.heap.size 0 (digA b) rfl rfl ?th HIN2.out HONE.out ?_; (case th => exact there_blk (blk_new w5 _) rfl)))
  obtain ⟨D, hD⟩ : ∃ D, D = w5.heap.size := ⟨_, rfl⟩
  have hth : (w5.alloc (.cells zeroA 57)).there D 0 (digA b).toList.length := by rw [hD]; exact there_blk (blk_new w5 _) rfl
  have hrs := World.rangeAt_setCells_same _ D 0 (digA b).toList hth
  have hb6 : Below w5.heap.size w5 ((w5.alloc (.cells zeroA 57)).setCells D 0 (digA b).toList) := below_cells (Nat.le_of_eq hD.symm) _ _ _ ((Below.refl _ _).alloc (Nat.le_refl _) _)
  rw [← hD]
  have HD5 := Lib.hid hD
  have hD5 : w5.heap.size ≤ D := Nat.le_of_eq hD.symm
  clear hD hth
  generalize (w5.alloc (.cells zeroA 57)).setCells D 0 (digA b).toList = w6 at *
  have HI6 := Lib.hid ((HI4.out.below HB5.out).below hb6)
  have HR6 := Lib.hid (Kd.R_below (Kd.R_below HR34.out HB5.out) hb6)
  have HRP6 := Lib.hid (Kd.R_below (Kd.R_below HR4.out HB5.out) hb6)
  have HB46 := HB5.out.trans (hb6.mono HB5.out.size)
  have HB6 := Lib.hid (HB4.out.trans (HB46.mono HB4.out.size))
  have HRS := Lib.hid hrs
  have HGL := Lib.hid (HI4.out.below HB5.out).lt
  clear hrs hb6 HB46 HI4 HR34 HR4 HB4 HB5 HI3 HR3 HB3 HI2 HB2 HI1 HB1
  obtain ⟨A3, c3, rfl, hl3, hC3⟩ := Kd.R_reads HR6.out
  obtain ⟨A4, c4, rfl, hl4, hC4⟩ := Kd.R_reads HRP6.out
  have HC3 := Lib.hid hC3
  have HC4 := Lib.hid hC4
  have HL4 := Lib.hid hl4
  clear hC3 hC4 hl4
  have hgD : D ≠ g := by have := (HI6.out).lt; have := HGL.out; omega
  cases b3 with
  | true =>
    go_wp2_with (go_at_call 22; with_reducible refine (wire_Reader_Bad.calls g q3 true true q3 true w _ HI6.out HB6.out rfl).mono ?_; rintro e w7 ⟨rfl, hi7, hb7, -⟩; have HI7 := Lib.hid hi7; have HB7 := Lib.hid hb7; clear hi7 hb7)
    go_ret
    exact ⟨rfl, HB7.out⟩
  | false =>
    by_cases hq : q3.size = 0
    case neg =>
      have hx1 : decide ((0 : Int) < (q3.size : Int)) = true := decide_eq_true (by omega)
      have hx2 : decide (0 < q3.size) = true := decide_eq_true (by omega)
      have e0 : chkF pub msg i l P q3 false = false := if_neg (fun h => hq h.2.1)
      have E0 := Lib.hid e0
      clear e0
      go_wp2_with (first
        | (go_at_call 22; with_reducible refine (wire_Reader_Bad.calls g q3 false false q3 false w _ HI6.out HB6.out rfl).mono ?_; rintro e w7 ⟨rfl, hi7, hb7, -⟩; have HI7 := Lib.hid hi7; have HB7 := Lib.hid hb7; clear hi7 hb7)
        | (go_at_call 23; with_reducible refine (wire_Reader_Left.calls g q3 false q3.size q3 false w _ HI7.out HB7.out rfl).mono ?_; rintro e w8 ⟨rfl, hi8, hb8, -⟩; have HB8 := Lib.hid hb8; clear hi8 hb8))
      go_ret
      exact ⟨by rw [E0.out]; rfl, HB8.out⟩
    case pos =>
      have hx1 : decide ((0 : Int) < (q3.size : Int)) = false := decide_eq_false (by omega)
      have hx2 : decide (0 < q3.size) = false := decide_eq_false (by omega)
      by_cases hl : l.length = 18
      case neg =>
        have hx3 : ((l.length : Int) != 18) = true := by simp; omega
        have e0 : chkF pub msg i l P q3 false = false := if_neg (fun h => hl h.2.2.1)
        have E0 := Lib.hid e0
        clear e0
        go_wp2_with (first
          | (go_at_call 22; with_reducible refine (wire_Reader_Bad.calls g q3 false false q3 false w _ HI6.out HB6.out rfl).mono ?_; rintro e w7 ⟨rfl, hi7, hb7, -⟩; have HI7 := Lib.hid hi7; have HB7 := Lib.hid hb7; clear hi7 hb7)
          | (go_at_call 23; with_reducible refine (wire_Reader_Left.calls g q3 false q3.size q3 false w _ HI7.out HB7.out rfl).mono ?_; rintro e w8 ⟨rfl, hi8, hb8, -⟩; have HB8 := Lib.hid hb8; clear hi8 hb8))
        go_ret
        exact ⟨by rw [E0.out]; rfl, HB8.out⟩
      case pos =>
        have hx3 : ((l.length : Int) != 18) = false := by simp; omega
        have hx4 : (18 != 18) = false := rfl
        have HLN := Lib.hid hl
        obtain ⟨ad3, eA3, _⟩ := HC3.out.2.2 (by omega)
        subst eA3
        have hdz := fun W => dig_zero W b
        clear hl
        go_wp2_with (first
          | (go_at_call 22; with_reducible refine (wire_Reader_Bad.calls g q3 false false q3 false w _ HI6.out HB6.out rfl).mono ?_; rintro e w7 ⟨rfl, hi7, hb7, hk7⟩; have HI7 := Lib.hid hi7; have HB7 := Lib.hid hb7; have HR7 := Lib.hid (R_past HI6.out HR6.out (by decide) hk7); have HRP7 := Lib.hid (R_past HI6.out HRP6.out (by decide) hk7); have HRS7 := Lib.hid (range_keep HRS.out hk7 hgD); clear hi7 hb7 hk7)
          | (go_at_call 23; with_reducible refine (wire_Reader_Left.calls g q3 false q3.size q3 false w _ HI7.out HB7.out rfl).mono ?_; rintro e w8 ⟨rfl, hi8, hb8, hk8⟩; have HB8 := Lib.hid hb8; have HR8 := Lib.hid (R_past HI7.out HR7.out (by decide) hk8); have HRP8 := Lib.hid (R_past HI7.out HRP7.out (by decide) hk8); have HRS8 := Lib.hid (range_keep HRS7.out hk8 hgD); clear hi8 hb8 hk8)
          | (((with_reducible refine gate_dst (N := 38) rfl ?_)); go_loud (refine gate_guard (by rfl) ?_; dsimp only; refine wpList_load_mid rfl 57 (.tmp 11) rfl D 0 rfl (digA b).toList _ HRS8.out Try.underlying57 rfl (by kernel_rfl) ?_)))
        clear hx1 hx2 hx3 hx4 hdz
        obtain ⟨A3', c3', e3, _, hC8⟩ := Kd.R_reads HR8.out
        cases e3
        obtain ⟨A4', c4', e4, _, hCP8⟩ := Kd.R_reads HRP8.out
        cases e4
        have HC8 := Lib.hid hC8
        have HCP8 := Lib.hid hCP8
        have hfr := Lib.IsBuilderF.of (Lib.fresh_isBuilder 66 5 w8)
        have hbf : Below w8.heap.size w8 (w8.alloc (.cells #[.pointer none, .slice none 0 0] 66)) := (Below.refl _ _).alloc (Nat.le_refl _) _
        have HFR := Lib.hid hfr
        have HBF := Lib.hid hbf
        have hD8 : D < w8.heap.size := by
          have := HRS8.out 0 (.int .i64 (dgt b 0)) rfl
          exact World.block_lt_of_cell? _ _ this
        have HD8 := Lib.hid hD8
        clear hC8 hCP8 hfr hbf hD8
        go_wp2
        go_loopw [13, 14, 44] (fun _ _ kv wr => ∃ n : Nat, n ≤ 18 ∧ kv = .int .i64 n ∧ (∀ j, j < n → (l.getD j ⟨#[]⟩).size = 8) ∧ Gw.LI w8.heap.size w8 (ends2 l b n).data.toList wr) (fun _ _ kv _ => 18 - (intOf kv).toNat)
        case atStart => exact ⟨0, by omega, rfl, fun _ h => absurd h (Nat.not_lt_zero _), HFR.out, HBF.out⟩
        case round =>
          obtain ⟨n, hn, rfl, hJ, hI⟩ := hrel
          have hs0 := hI.2.size
          have HI := Lib.hid hI
          have HJ := Lib.hid hJ
          clear hI hJ
          by_cases hlt : n < 18
          · have hnl : n < l.length := by rw [HLN.out]; exact hlt
            have hx1 : decide ((n : Int) < (l.length : Int)) = true := decide_eq_true (by omega)
            have hx2 : decide (n < l.length) = true := decide_eq_true hnl
            have r1 : (0 ≤ (n : Int)) = True := eq_true (by omega)
            have r2 : ((n : Int) < (l.length : Int)) = True := eq_true (by omega)
            have hC9 := Kd.C_below HC8.out HI.out.2
            have q1 : wr.cell? (ad3.add n) = some (.string (l.getD n ⟨#[]⟩)) := by
              have := Kd.foot_string hC9 (n : Int) (by omega) (by omega)
              rw [rdOf, Int.toNat_natCast] at this
              exact this
            have q2 : wr.cell? ⟨D, n, none⟩ = some (.int .i64 (dgt b n)) := by
              have h8 : w8.cell? ⟨D, n, none⟩ = some (.int .i64 (dgt b n)) := by
                have := HRS8.out n (.int .i64 (dgt b n)) (digA_get b n hlt)
                rwa [Nat.zero_add] at this
              exact (HI.out.2.cell (World.block_lt_of_cell? _ _ h8)).trans h8
            have hr := dgt_range b n
            obtain ⟨s, hs⟩ : ∃ s, s = l.getD n ⟨#[]⟩ := ⟨_, rfl⟩
            rw [← hs] at q1
            have HSN := Lib.hid hs
            have HNL := Lib.hid hnl
            have HS0 := Lib.hid hs0
            clear hC9 hs hnl hs0
            by_cases h8 : s.size = 8
            · have hx3 : ((s.size : Int) != 8) = false := by simp; omega
              have HSZ := Lib.hid h8
              have HEN := Lib.hid (ends2_size l b n HJ.out)
              have HKS := Lib.hid (lnk_size8 s h8 (15 - dgt b n).toNat)
              clear h8
              go_wp2_with (first
                | (go_at_call 39; with_reducible refine (link_any s (dgt b n) 15 _ hr.1 hr.2 (by omega) (by have := HSZ.out; omega)).mono ?_; rintro e w9 ⟨rfl, hb9⟩; have HI9 := Lib.hid (HI.out.call HS0.out hb9); clear hb9)
                | (go_at_call 45; refine (Bd.writeString w8.heap.size w8.heap.size _ (lnk s (15 - dgt b n).toNat) _ HI9.out.1 (by rw [Lib.byteCells_length, Array.length_toList]; have := HEN.out; have := HKS.out; show (ends2 l b n).size + _ ≤ _; omega) HI9.out.2.size).mono ?_; rintro e w5 ⟨rfl, hI5, hb5, -⟩; have HI5 := Lib.hid hI5; have HB5 := Lib.hid hb5; clear hI5 hb5))
              go_roundw
              case rel =>
                refine ⟨n + 1, by omega, by go_num, ?_, .inr ?_, HI9.out.2.trans HB5.out⟩
                · intro j hj
                  by_cases e : j = n
                  · subst e; rw [← HSN.out]; exact HSZ.out
                  · exact HJ.out j (by omega)
                · have e : (ends2 l b (n + 1)).data.toList = (ends2 l b n).data.toList ++ (lnk s (15 - dgt b n).toNat).data.toList := by
                    rw [HSN.out]
                    show (ends2 l b n ++ lnk (l.getD n ⟨#[]⟩) (15 - dgt b n).toNat).data.toList = _
                    rw [ByteArray.data_append, Array.toList_append]
                  rw [e, Lib.byteCells_append]
                  exact HI5.out
              case measure => simp [intOf]; omega
            · have hx3 : ((s.size : Int) != 8) = true := by simp; omega
              have e0 : chkF pub msg i l P q3 false = false := if_neg (fun h => h8 (h.2.2.2 s (by rw [HSN.out, List.getD_eq_getElem?_getD, List.getElem?_eq_getElem HNL.out]; exact List.getElem_mem _)))
              have E0 := Lib.hid e0
              clear e0 h8
              go_wp2
              go_ret
              exact ⟨by rw [E0.out]; rfl, HB8.out.trans (HI.out.2.mono HB8.out.size)⟩
          · obtain rfl : n = 18 := by omega
            have hx1 : decide (((18 : Nat) : Int) < (l.length : Int)) = false := decide_eq_false (by rw [HLN.out]; omega)
            have hx2 : decide (18 < l.length) = false := decide_eq_false (by rw [HLN.out]; omega)
            have hx3 : decide ((18 : Int) < (l.length : Int)) = false := decide_eq_false (by rw [HLN.out]; omega)
            have HJ2 := Lib.hid (ends2_size l b 18 HJ.out)
            have hall : ∀ s ∈ l, s.size = 8 := by
              intro s hs
              obtain ⟨j, hj, rfl⟩ := List.getElem_of_mem hs
              have := HJ.out j (by rw [← HLN.out]; exact hj)
              rwa [List.getD_eq_getElem?_getD, List.getElem?_eq_getElem hj] at this
            have e0 : chkF pub msg i l P q3 false = VerifyF pub (OfB (ends2 l b 18)) i P := by rw [HBM.out]; exact if_pos ⟨rfl, hq, HLN.out, hall⟩
            have E0 := Lib.hid e0
            have HOF := Lib.hid (show digest_Of.f (ends2 l b 18) = some (OfB (ends2 l b 18)) from if_pos (by have := HJ2.out; omega))
            have HVF := Lib.hid (show digest_Verify.f pub (OfB (ends2 l b 18)) i P = some (VerifyF pub (OfB (ends2 l b 18)) i P) from if_pos ⟨by rw [OfB_size]; omega, hi, List.all_eq_true.2 fun s hs => decide_eq_true (HP.out s hs)⟩)
            clear hall e0
            go_wp2_with (first
              | (go_at_call 48; refine (Bd.toString_any w8.heap.size w8.heap.size (ends2 l b 18).data.toList _ HI.out.1 hs0).mono ?_; rintro e w5 ⟨rfl, hb5⟩; have HB5 := Lib.hid (HI.out.2.trans hb5); clear hb5)
              | (go_at_call 47; refine (digest_Of.calls (ends2 l b 18) _ _ HOF.out).mono ?_; rintro e w6 ⟨rfl, hb6⟩; have HB6' := Lib.hid (HB5.out.trans (hb6.mono HB5.out.size)); clear hb6)
              | (go_at_call 46; with_reducible refine (digest_Verify.calls pub (OfB (ends2 l b 18)) i A4 c4 P _ _ (Kd.C_below HCP8.out HB6'.out) HL4.out HVF.out).mono ?_; rintro e w7 ⟨rfl, hb7⟩; have HB7' := Lib.hid (HB6'.out.trans (hb7.mono HB6'.out.size)); clear hb7))
            go_ret
            exact ⟨by rw [E0.out]; rfl, HB8.out.trans (HB7'.out.mono HB8.out.size)⟩
end Go.Proofs.Ytoolionhheiihaa.Sg

