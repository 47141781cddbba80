/- digest.levels: the levels of a tree, handed out one after the other. -/
import Derived.Test.YtgepeapfninmeaaDgE
import Derived.Test.YtgepeapfninmeaaRngA
import Derived.Shelf.RegionOpen
import Derived.OwnWalkIn
import Derived.TacticsInMore
import Derived.LoopNIn
import Derived.LoopIn
import Derived.Laws.CopyOwn
import Derived.IntWalk
import Derived.Deep.OwnRows
set_option linter.unusedVariables false
set_option linter.unusedSimpArgs false
namespace Go.Proofs.Ytgepeapfninmeaa.Dg
open Go.RowKit Go.Proofs.YtgepeapfninmeaaW.PrintWords Go.Proofs.Ytgepeapfninmeaa.Rng
attribute [local go_sem] Oper.semAt_some
/-- m is n, filled up to a power of two. -/
def Up (n m : Nat) : Prop := (∃ j, m = 2 ^ j) ∧ n ≤ m ∧ (m = 1 ∨ m < 2 * n)
/-- The list filled up to m elements. -/
def fill (l : List ByteArray) (m : Nat) : List ByteArray := l ++ List.replicate (m - l.length) ⟨#[]⟩
/-- The level above a level. -/
def above (r : List ByteArray) : List ByteArray := (List.range (r.length / 2)).map fun i => PairB (r.getD (2 * i) ⟨#[]⟩) (r.getD (2 * i + 1) ⟨#[]⟩)
def lev (r : List ByteArray) : Nat → List ByteArray
  | 0 => r
  | k + 1 => above (lev r k)
/-- A level, as it is handed out: its number, where it lies, what it is. -/
structure Lv where
  k : Nat
  g : Nat
  r : List ByteArray
def Lv.encs (x : Lv) : Array Value := #[.int .i64 x.k, .slice (some ⟨x.g, 0, none⟩) x.r.length x.r.length]
def strs (l : List ByteArray) : Array Value := (l.map Value.string).toArray
/-- What is so of a level when it is handed out. -/
def Lv.X (l : List ByteArray) (pre : List Lv) (x : Lv) (W : World) : Prop := x.k = pre.length ∧ W.heap[x.g]? = some (.cells (strs x.r) 9 (0, 0)) ∧ (∀ s ∈ x.r, s.size ≤ 9223372036854775807) ∧ ∃ h : Nat, Up l.length (2 ^ h) ∧ x.k ≤ h ∧ x.r = lev (fill l (2 ^ h)) x.k
def LvS (l : List ByteArray) (xs : List Lv) : Prop := ∃ h, Up l.length (2 ^ h) ∧ xs.map (fun x => (x.k, x.r)) = (List.range (h + 1)).map fun k => (k, lev (fill l (2 ^ h)) k)
theorem C_get {A : Option Addr} {l : List ByteArray} {W : World} (h : Kd.C Kd.string W A l.length l) (hp : 0 < l.length) : ∃ ad, A = some ad ∧ ∀ j s, l[j]? = some s → W.cell? (ad.add j) = some (.string s) := by
  obtain ⟨ad, e, hc⟩ := h.2.2 hp
  refine ⟨ad, e, fun j s hj => ?_⟩
  obtain ⟨c, hcl, hK, hcc⟩ := hc j s hj
  have hK' : c = [.string s] := hK
  have := hcc 0 (.string s) (by rw [hK']; rfl)
  rwa [Nat.add_zero, show Kd.string.sz = 1 from rfl, Nat.mul_one] at this
theorem cell_at3 {w : World} {g i : Nat} {l : List ByteArray} {T : TypeId} (h : w.heap[g]? = some (.cells (strs l) T (0, 0))) (hi : i < l.length) : w.cell? ⟨g, i, none⟩ = some (.string (l.getD i ⟨#[]⟩)) := by
  simp [World.cell?, h, strs, hi]
theorem free_at3 {w : World} {g i : Nat} {l : List ByteArray} {T : TypeId} (h : w.heap[g]? = some (.cells (strs l) T (0, 0))) : w.frozen? ⟨g, i, none⟩ = false := by
  simp [World.frozen?, h]
theorem strs_set (l : List ByteArray) (i : Nat) (x : ByteArray) : (strs l).setIfInBounds i (.string x) = strs (l.set i x) := by
  simp [strs, List.map_set]
theorem set_step {α : Type} (A : List α) (z x : α) (i q : Nat) (hA : A.length = q) (hx : A[i]? = some x) : (A.take i ++ List.replicate (q - i) z).set i x = A.take (i + 1) ++ List.replicate (q - (i + 1)) z := by
  have hi : i < A.length := (List.getElem?_eq_some_iff.1 hx).1
  rw [List.set_append_right _ _ (by simp; omega), show q - i = (q - (i + 1)) + 1 by omega, List.replicate_succ]
  have e : i - (A.take i).length = 0 := by simp; omega
  rw [e, List.set_cons_zero, List.take_add_one, hx]
  simp
theorem above_len (r : List ByteArray) : (above r).length = r.length / 2 := by simp [above]
theorem above_get (r : List ByteArray) (i : Nat) (a b : ByteArray) (hi : i < r.length / 2) (ha : r[2 * i]? = some a) (hb : r[2 * i + 1]? = some b) : (above r)[i]? = some (PairB a b) := by
  simp [above, hi, List.getD_eq_getElem?_getD, ha, hb]
theorem PairB_len (a b : ByteArray) : (PairB a b).size = 8 := by simp [PairB, OfB, dg, strOfNums_size]
theorem made_strs (m : Nat) : madeCells #[.string ⟨#[]⟩] m = strs (List.replicate m ⟨#[]⟩) := by
  apply Array.ext
  · simp [strs, size_madeCells]
  · intro i h1 h2
    simp [strs, madeCells, Nat.mod_one]
theorem copy_in (A : Option Addr) (c : Nat) (l : List ByteArray) (m : Nat) (hm : l.length ≤ m) (W : World) (hr : Kd.C Kd.string W A l.length l) (g : Nat) (hg : W.heap[g]? = some (.cells (madeCells #[.string ⟨#[]⟩] m) 9 (0, 0))) :
    ∃ W', (∀ ty, (Builtin.copy_ #[26, 26] ty #[.slice (some ⟨g, 0, none⟩) m m, .slice A l.length c]).run Try.prog W = .ok (.int .i64 l.length) W') ∧ W'.heap[g]? = some (.cells (strs (fill l m)) 9 (0, 0)) ∧ Step (fun k => k = g) W W' ∧ W'.heap.size = W.heap.size := by
  have hsz : (Try.prog.info? 9).map (·.size) = some 1 := by kernel_rfl
  rw [made_strs] at hg
  by_cases h0 : l.length = 0
  · obtain rfl : l = [] := List.eq_nil_of_length_eq_zero h0
    refine ⟨W, fun ty => ?_, ?_, Step.refl _ _, rfl⟩
    · exact run_copy_none W _ _ ty _ _ _ _ _ _ _ Try.underlying26 hsz (by simp)
    · simpa [fill] using hg
  · obtain ⟨ad, rfl, hc⟩ := C_get hr (by omega)
    have hrun := fun ty => run_copy_row (P := Try.prog) W 26 26 ty _ g 0 m m ad l.length c _ _ (l.map Value.string) Try.underlying26 hsz hg (by show _ = min _ _; rw [Nat.min_eq_left hm]; simp) (by
      intro j v hv
      simp at hv
      obtain ⟨s, hs, rfl⟩ := hv
      exact hc j s hs) (by simp [strs]; omega) (by intro v hv; simp at hv; obtain ⟨s, _, rfl⟩ := hv; rfl)
    refine ⟨_, fun ty => (hrun ty).trans (by simp [goInt]; rfl), ?_, ?_, ?_⟩
    · rw [setRow_heap W g _ _ _ _ hg]
      simp [strs, fill]
    · refine ⟨⟨by simp, fun i _ hne => setRow_other W g i _ hne⟩, below_setRow (Below.refl _ _) (Nat.zero_le _) _⟩
    · simp
set_option maxHeartbeats 1000000 in
theorem levels_iter (n : Nat) (base b : Nat) (A : Option Addr) (c : Nat) (l : List ByteArray) (w : World) (hl : l.length ≤ 1099511627776) (hs : ∀ s ∈ l, s.size ≤ 9223372036854775807)
    (hb : w.heap[b]? = some (.cells #[.slice A l.length c] 26 (0, 0))) (hr : Kd.C Kd.string w A l.length l) :
    Iter Fence.wide n Try.prog 34 #[.pointer (some ⟨b, 0, none⟩)] Lv.encs (Lv.X l) (fun _ => False) base (LvS l) (fun _ => True) w := by
  intro L J Jx W O hW hJO hJ hJx hY h0
  have hrW := Kd.C_below hr hW
  have hbW : W.cell? ⟨b, 0, none⟩ = some (.slice A l.length c) := cell_of_one ((hW.block b (lt_of_block hb)).trans hb)
  have HRW := Lib.hid hrW
  have hbl : b < W.heap.size := Nat.lt_of_lt_of_le (lt_of_block hb) hW.size
  clear hrW
  refine callsIn_of_wp Try.func34 rfl trivial ?_ rfl
  simp only [Try.ntmps34, List.size_toArray, List.length_cons, List.length_nil, Nat.reduceAdd, Nat.reduceSub, Array.replicate_succ, Array.replicate_zero, List.push_toArray, List.append_toArray, List.nil_append, List.cons_append]
  gi_wp2
  gi_loopw [3] (fun v wr => ∃ m : Nat, v = .int .i64 m ∧ (∃ j, m = 2 ^ j) ∧ (m = 1 ∨ m < 2 * l.length) ∧ W = wr) (fun v _ => l.length - (intOf v).toNat)
  case atStart => exact ⟨1, rfl, ⟨0, rfl⟩, .inl rfl, rfl⟩
  case round =>
    obtain ⟨m, rfl, ⟨j, hj⟩, hm, rfl⟩ := hrel
    have HJ := Lib.hid hj
    clear hj
    have hpos : 0 < m := by rw [HJ.out]; exact Nat.pow_pos (by omega)
    by_cases hlt : m < l.length
    · gi_wp2
      go_roundw
      case rel => exact ⟨m * 2, by go_num, ⟨j + 1, by rw [HJ.out, Nat.pow_succ]⟩, .inr (by omega), trivial⟩
      case measure => simp [intOf]; omega
    · have hmle : l.length ≤ m := by omega
      have hinfo : (Try.prog.info? 9).map (fun i => (i.zero, i.size, i.bytes)) = some (some (.string ⟨#[]⟩), 1, 16) := by kernel_rfl
      have hmk := run_make_row' 26 9 (.string ⟨#[]⟩) 16 Try.underlying26 hinfo rfl .i64 .i64 m (by omega) (by omega)
      obtain ⟨V, hV⟩ : ∃ V, V = W.alloc (.cells (madeCells #[.string ⟨#[]⟩] m) 9) := ⟨_, rfl⟩
      obtain ⟨V', hcp, hg', hst, hz⟩ := copy_in A c l m hmle V (by rw [hV]; exact Kd.C_alloc HRW.out _) W.heap.size (by rw [hV]; exact heap_alloc_new _ _)
      rw [hV] at hcp hst hz
      clear hV
      have HZ := Lib.hid hz
      have HG := Lib.hid hg'
      have HS := Lib.hid hst
      clear hinfo hz hg' hst
      have hjm : j < m := by rw [HJ.out]; exact Nat.lt_two_pow_self
      have hg0 : ¬ O W.heap.size := fun h => by have := (hJO _ _ _ h0 _ h).2.2; omega
      have h0' : J [] O V' := hJ _ _ _ _ h0 (Step.trans (T := fun k => False ∨ W.heap.size ≤ k ∧ ¬ O k) (T' := fun k => k = W.heap.size) ((Step.refl _ _).alloc _) HS.out (fun k e => .inr (by omega)))
      have HF : (fill l m).length = 2 ^ j := by rw [← HJ.out]; simp [fill]; omega
      gi_wp2_with fail
      gi_loopw [4, 5] (fun v4 v5 wr => ∃ (pre : List Lv) (g : Nat) (r : List ByteArray) (O' : Nat → Prop), v5 = .int .i64 pre.length ∧ v4 = .slice (some ⟨g, 0, none⟩) r.length r.length ∧ J pre O' wr ∧ wr.heap[g]? = some (.cells (strs r) 9 (0, 0)) ∧ ¬ O' g ∧
        pre.map (fun x => (x.k, x.r)) = (List.range pre.length).map (fun k => (k, lev (fill l m) k)) ∧ r = lev (fill l m) pre.length ∧ r.length = 2 ^ (j - pre.length) ∧ pre.length ≤ j ∧ (∀ s ∈ r, s.size ≤ 9223372036854775807)) (fun _ v5 _ => j + 1 - (intOf v5).toNat)
      case atStart => exact ⟨[], W.heap.size, fill l m, O, rfl, by rw [HF, HJ.out], h0', HG.out, hg0, rfl, rfl, HF, Nat.zero_le _, by
        intro s hs'
        simp [fill] at hs'
        rcases hs' with h | h
        · exact hs s h
        · rw [h.2]; decide⟩
      case round =>
        obtain ⟨pre, g, r, O', rfl, rfl, hJ', hG, hOg, hpre, hrr, hrl, hkj, hrs⟩ := hrel
        clear hbW HS HG HZ h0' hmk hcp
        obtain ⟨fn, tmps, assign, body, hy, hR⟩ := hY pre ⟨pre.length, g, r⟩ O' wr hJ' ⟨rfl, hG, hrs, j, ⟨⟨j, rfl⟩, by rw [← HJ.out]; exact hmle, by rw [← HJ.out]; exact hm⟩, hkj, by rw [← HJ.out]; exact hrr⟩
        dsimp only [Lv.encs] at hy
        have HPRE := Lib.hid hpre
        have HRR := Lib.hid hrr
        have HRL := Lib.hid hrl
        have HGG := Lib.hid hG
        clear hpre hrr hrl hG HF
        gi_wp2
        refine ⟨fun h => absurd h (by simp [Fence.wide]), ?_⟩
        refine hR.mono ?_
        rintro e W1 (⟨rfl, O2, hJ2, hst, hgrow⟩ | ⟨rfl, O2, hJx2⟩)
        · have HST := Lib.hid hst
          have HGR := Lib.hid hgrow
          have HJ2 := Lib.hid hJ2
          clear hst hgrow hJ2
          by_cases hlast : pre.length = j
          · have t1 : decide (1 < r.length) = false := by rw [HRL.out, hlast]; simp
            have t2 : decide ((1 : Int) < (r.length : Int)) = false := by rw [HRL.out, hlast]; simp
            have HL := Lib.hid hlast
            clear hlast
            gi_wp2
            go_end0
            refine ⟨⟨_, rfl⟩, .inl ⟨pre ++ [⟨pre.length, g, r⟩], O2, ⟨j, ⟨⟨j, rfl⟩, by rw [← HJ.out]; exact hmle, by rw [← HJ.out]; exact hm⟩, ?_⟩, HJ2.out⟩⟩
            rw [List.map_append, HPRE.out, HL.out, List.range_succ, List.map_append]
            simp only [List.map_cons, List.map_nil]
            rw [HRR.out, HL.out, ← HJ.out]
          · have t1 : decide (1 < r.length) = true := by rw [HRL.out]; simp; omega
            have t2 : decide ((1 : Int) < (r.length : Int)) = true := by simp at t1 ⊢; omega
            have hinfo : (Try.prog.info? 9).map (fun i => (i.zero, i.size, i.bytes)) = some (some (.string ⟨#[]⟩), 1, 16) := by kernel_rfl
            obtain ⟨q, hq⟩ : ∃ q, r.length = 2 * q := ⟨2 ^ (j - pre.length - 1), by rw [HRL.out, ← Nat.pow_succ']; congr 1; omega⟩
            have hqm : q ≤ 2199023255552 := by
              have e1 : r.length ≤ 2 ^ j := by rw [HRL.out]; exact Nat.pow_le_pow_right (by omega) (by omega)
              rw [← HJ.out] at e1
              omega
            have hmk2 : ∀ W : World, (Instr.makeSlice 26 (.int .i64 ((r.length : Int) / 2)) (.int .i64 ((r.length : Int) / 2))).run Try.prog W = .ok (.slice (some ⟨W.heap.size, 0, none⟩) q q) (W.alloc (.cells (madeCells #[.string ⟨#[]⟩] q) 9)) := by
              rw [show ((r.length : Int) / 2) = (q : Int) from by omega]
              exact run_make_row' 26 9 (.string ⟨#[]⟩) 16 Try.underlying26 hinfo rfl .i64 .i64 q (by omega) (by omega)
            have hrb : r.length ≤ 4398046511104 := by omega
            have HQ := Lib.hid hq
            clear hinfo hq
            have hW1s := HST.out.size
            have hgW1 : g < W1.heap.size := Nat.lt_of_lt_of_le (lt_of_block HGG.out) hW1s
            have hG1 := HST.out.same HGG.out hOg
            have HG1 := Lib.hid hG1
            clear hG1
            gi_wp2_with fail
            gi_loopw [36] (fun v36 wr2 => ∃ i : Nat, i ≤ q ∧ v36 = .int .i64 i ∧ wr2.heap[W1.heap.size]? = some (.cells (strs ((above r).take i ++ List.replicate (q - i) ⟨#[]⟩)) 9 (0, 0)) ∧ Below W1.heap.size W1 wr2) (fun v36 _ => q - (intOf v36).toNat)
            case atStart => exact ⟨0, Nat.zero_le _, rfl, by rw [heap_alloc_new, made_strs]; simp, (Below.refl _ _).alloc (Nat.le_refl _) _⟩
            case round =>
              obtain ⟨i, hi, rfl, hN, hB2⟩ := hrel
              clear hmk2 t1 t2
              have hG2 := (hB2.block g hgW1).trans HG1.out
              by_cases hlt : i < q
              · have hi0 : 2 * i < r.length := by rw [HQ.out]; omega
                have hi1 : 2 * i + 1 < r.length := by rw [HQ.out]; omega
                obtain ⟨a, ha⟩ : ∃ a, r[2 * i]? = some a := ⟨_, List.getElem?_eq_getElem hi0⟩
                obtain ⟨b2, hb2⟩ : ∃ b2, r[2 * i + 1]? = some b2 := ⟨_, List.getElem?_eq_getElem hi1⟩
                have hsa := hrs a (List.mem_of_getElem? ha)
                have hsb := hrs b2 (List.mem_of_getElem? hb2)
                have hc0 : wr.cell? ⟨g, 2 * i, none⟩ = some (.string a) := by simp [World.cell?, hG2, strs, ha]
                have hc1 : wr.cell? ⟨g, 2 * i + 1, none⟩ = some (.string b2) := by simp [World.cell?, hG2, strs, hb2]
                have hx0 : 0 ≤ 2 * (i : Int) ∧ 2 * (i : Int) < (r.length : Int) := by omega
                have hx1 : 0 ≤ 2 * (i : Int) + 1 ∧ 2 * (i : Int) + 1 < (r.length : Int) := by omega
                have hx2 : 0 ≤ (i : Int) ∧ (i : Int) < (q : Int) := by omega
                have hw0 : IntKind.i64.wrap (2 * (i : Int)) = 2 * (i : Int) := IntWalk.i64_in _ (by omega)
                have hw1 : IntKind.i64.wrap (2 * (i : Int) + 1) = 2 * (i : Int) + 1 := IntWalk.i64_in _ (by omega)
                have ht0 : (2 * (i : Int)).toNat = 2 * i := by omega
                have ht1 : (2 * (i : Int) + 1).toNat = 2 * i + 1 := by omega
                have HA := Lib.hid ha
                have HB := Lib.hid hb2
                have HN := Lib.hid hN
                clear ha hb2 hN hG2
                gi_wp2_with fail
                gi_region_with (refine ⟨trivial, fun h => absurd h (by simp [Fence.wide]), ?_⟩; gi_at_call 15; refine (callsIn_wide.2 (Pair_any a b2 hsa hsb _)).mono ?_; rintro e w3 ⟨rfl, hB3⟩; have hN3 := (hB3.block W1.heap.size (lt_of_block HN.out)).trans HN.out; have hc3 := cell_at3 hN3 (i := i) (by simp [above]; omega); have hf3 := free_at3 hN3 (i := i))
                all_goals gi_wp2
                all_goals
                  go_roundw
                  case rel =>
                    refine ⟨i + 1, by omega, by go_num, ?_, ((hB2.drew.trans (hB3.mono hB2.size))).setCell (p := ⟨W1.heap.size, i, none⟩) (Nat.le_refl _) _⟩
                    rw [set_blk hN3, strs_set, set_step _ _ _ _ _ (by rw [above_len, HQ.out]; omega) (above_get r i a b2 (by rw [HQ.out]; omega) HA.out HB.out)]
                  case measure => simp [intOf]; omega
              · have ei : i = q := by omega
                subst ei
                gi_wp2
                have ha := above_len r
                have hq2 := HQ.out
                have hal : (above r).length = i := by omega
                have hN2 : wr.heap[W1.heap.size]? = some (.cells (strs (above r)) 9 (0, 0)) := by
                  rw [hN, List.take_of_length_le (by omega), Nat.sub_self]
                  simp
                refine ⟨⟨pre ++ [⟨pre.length, g, r⟩], W1.heap.size, above r, O2, ?_, ?_, hJ _ _ _ _ HJ2.out (Step.of_below hB2 _), hN2, ?_, ?_, ?_, ?_, ?_, ?_⟩, ?_⟩
                · simp
                · rw [hal]
                · intro h
                  have := (hJO _ _ _ HJ2.out _ h).2.2
                  omega
                · rw [List.length_append, List.map_append, HPRE.out, List.length_singleton, List.range_succ, List.map_append]
                  simp only [List.map_cons, List.map_nil]
                  rw [HRR.out]
                · rw [List.length_append, List.length_singleton, HRR.out]; rfl
                · rw [hal, List.length_append, List.length_singleton]
                  have e1 := HRL.out
                  rw [show j - pre.length = (j - (pre.length + 1)) + 1 by omega, Nat.pow_succ] at e1
                  omega
                · rw [List.length_append, List.length_singleton]; omega
                · intro s hs'
                  simp only [above, List.mem_map] at hs'
                  obtain ⟨i', _, rfl⟩ := hs'
                  rw [PairB_len]
                  omega
                · simp [intOf]; omega
        · gi_wp2
          go_end0
          exact ⟨⟨_, rfl⟩, .inr ⟨_, O2, trivial, hJx2⟩⟩
set_option maxHeartbeats 400000 in
theorem levels_any (A : Option Addr) (n c : Nat) (w : World) :
    Calls Try.prog 29 #[.slice A n c] w fun e w' => e = .returned (.func (.func 34) #[] #[.pointer (some ⟨w.heap.size, 0, none⟩)]) ∧ w' = w.alloc (.cells #[.slice A n c] 26) := by
  go_enter Try.func29, Try.ntmps29
  go_wp2
  go_ret
  exact ⟨rfl, rfl⟩
end Go.Proofs.Ytgepeapfninmeaa.Dg
