/- digest.Root. -/
import Derived.Test.YtgepeapfninmeaaDgL
set_option linter.unusedVariables false
set_option linter.unusedSimpArgs false
namespace Go.Proofs.Ytgepeapfninmeaa.Dg
open Go.RowKit Go.Proofs.YtgepeapfninmeaaW.PrintWords Go.Proofs.Ytgepeapfninmeaa.Rng
attribute [local go_sem] Oper.semAt_some
/-- What the variable for the root holds behind some levels. -/
def outOf (xs : List Lv) : Obj := xs.foldl (fun o x => if x.r.length = 1 then .cells #[.int .u8 (bb (rx x.k (x.r.getD 0 ⟨#[]⟩)) 16777216), .int .u8 (bb (rx x.k (x.r.getD 0 ⟨#[]⟩)) 65536), .int .u8 (bb (rx x.k (x.r.getD 0 ⟨#[]⟩)) 256), .int .u8 (bb (rx x.k (x.r.getD 0 ⟨#[]⟩)) 1), .int .u8 (bb (ry x.k (x.r.getD 0 ⟨#[]⟩)) 16777216), .int .u8 (bb (ry x.k (x.r.getD 0 ⟨#[]⟩)) 65536), .int .u8 (bb (ry x.k (x.r.getD 0 ⟨#[]⟩)) 256), .int .u8 (bb (ry x.k (x.r.getD 0 ⟨#[]⟩)) 1)] 46 (0, 0) else o) Z8
def outV (n : Int) (b : ByteArray) : Obj := .cells #[.int .u8 (bb (rx n b) 16777216), .int .u8 (bb (rx n b) 65536), .int .u8 (bb (rx n b) 256), .int .u8 (bb (rx n b) 1), .int .u8 (bb (ry n b) 16777216), .int .u8 (bb (ry n b) 65536), .int .u8 (bb (ry n b) 256), .int .u8 (bb (ry n b) 1)] 46 (0, 0)
theorem outOf_no (pre : List Lv) (x : Lv) (h : ¬ x.r.length = 1) : outOf (pre ++ [x]) = outOf pre := by
  simp [outOf, h]
theorem outOf_snoc (pre : List Lv) (x : Lv) (top : ByteArray) (h : x.r.length = 1) (ht : x.r[0]? = some top) : outOf (pre ++ [x]) = outV x.k top := by
  have e : x.r.getD 0 ⟨#[]⟩ = top := by rw [List.getD_eq_getElem?_getD, ht]; rfl
  simp only [outOf, List.foldl_append, List.foldl_cons, List.foldl_nil, if_pos h, e]
  rfl
theorem outOf_form (pre : List Lv) : ∃ v0 v1 v2 v3 v4 v5 v6 v7 : Int, outOf pre = .cells #[.int .u8 v0, .int .u8 v1, .int .u8 v2, .int .u8 v3, .int .u8 v4, .int .u8 v5, .int .u8 v6, .int .u8 v7] 46 (0, 0) := by
  unfold outOf Z8
  generalize hz : (Obj.cells #[.int .u8 0, .int .u8 0, .int .u8 0, .int .u8 0, .int .u8 0, .int .u8 0, .int .u8 0, .int .u8 0] 46 (0, 0)) = z
  have h0 : ∃ v0 v1 v2 v3 v4 v5 v6 v7 : Int, z = .cells #[.int .u8 v0, .int .u8 v1, .int .u8 v2, .int .u8 v3, .int .u8 v4, .int .u8 v5, .int .u8 v6, .int .u8 v7] 46 (0, 0) := ⟨_, _, _, _, _, _, _, _, hz.symm⟩
  clear hz
  induction pre generalizing z with
  | nil => exact h0
  | cons x pre ih =>
    refine ih _ ?_
    dsimp only
    split
    · exact ⟨_, _, _, _, _, _, _, _, rfl⟩
    · exact h0
theorem fill_len (l : List ByteArray) (m : Nat) (h : l.length ≤ m) : (fill l m).length = m := by simp [fill]; omega
theorem lev_len (l : List ByteArray) (h : Nat) (hl : l.length ≤ 2 ^ h) : ∀ k, k ≤ h → (lev (fill l (2 ^ h)) k).length = 2 ^ (h - k) := by
  intro k
  induction k with
  | zero => intro _; exact fill_len l _ hl
  | succ k ih =>
    intro hk
    have e := ih (by omega)
    rw [show h - k = (h - (k + 1)) + 1 by omega, Nat.pow_succ] at e
    rw [lev, above_len, e]
    omega
theorem outOf_last (l : List ByteArray) (xs : List Lv) (hS : LvS l xs) : ∃ h : Nat, Up l.length (2 ^ h) ∧ outOf xs = outV h ((lev (fill l (2 ^ h)) h).getD 0 ⟨#[]⟩) := by
  obtain ⟨h, hup, hm⟩ := hS
  refine ⟨h, hup, ?_⟩
  rw [List.range_succ, List.map_append] at hm
  obtain ⟨l1, l2, rfl, _, h2⟩ := List.map_eq_append_iff.1 hm
  obtain ⟨x, rfl, hx⟩ := List.map_eq_singleton_iff.1 h2
  simp only [Prod.mk.injEq] at hx
  have e1 := lev_len l h hup.2.1 h (Nat.le_refl _)
  rw [Nat.sub_self, Nat.pow_zero] at e1
  obtain ⟨top, htop⟩ : ∃ top, (lev (fill l (2 ^ h)) h)[0]? = some top := ⟨_, List.getElem?_eq_getElem (by omega)⟩
  rw [outOf_snoc l1 x top (by rw [hx.2]; exact e1) (by rw [hx.2]; exact htop), hx.1, List.getD_eq_getElem?_getD, htop]
  rfl
set_option maxHeartbeats 1000000 in
theorem Root_any (A : Option Addr) (c : Nat) (l : List ByteArray) (w : World) (hl : l.length ≤ 1099511627776) (hs : ∀ s ∈ l, s.size ≤ 9223372036854775807) (hr : Kd.C Kd.string w A l.length l) :
    Calls Try.prog 21 #[.slice A l.length c] w fun e w' => ∃ h : Nat, Up l.length (2 ^ h) ∧ e = .returned (.string (RootB h ((lev (fill l (2 ^ h)) h).getD 0 ⟨#[]⟩))) ∧ Below w.heap.size w w' := by
  refine (callsIn_wide (n := 3)).1 ?_
  refine callsIn_of_wp_marks Try.func21 rfl trivial ?_ rfl
  simp only [Try.ntmps21, List.size_toArray, List.length_cons, List.length_nil, Nat.reduceAdd, Nat.reduceSub, Array.replicate_succ, Array.replicate_zero, List.push_toArray, List.append_toArray, List.nil_append, List.cons_append]
  gi_wp2_with (refine ⟨trivial, ?_⟩; gi_at_call 29; refine (callsIn_wide.2 (levels_any _ _ _ _)).mono ?_; rintro e w1 ⟨rfl, rfl⟩)
  obtain ⟨W0, hW0⟩ : ∃ W0, (w.alloc Z8).alloc (.cells #[.slice A l.length c] 26) = W0 := ⟨_, rfl⟩
  have b0 : W0.heap[w.heap.size]? = some Z8 := by rw [← hW0]; exact new1 _ _ _
  have b1 : W0.heap[w.heap.size + 1]? = some (.cells #[.slice A l.length c] 26 (0, 0)) := by rw [← hW0]; exact new2 _ _ _
  have bz : W0.heap.size = w.heap.size + 1 + 1 := by rw [← hW0]; simp
  have bB : Below w.heap.size w W0 := by rw [← hW0]; exact ((Below.refl _ _).alloc (Nat.le_refl _) _).alloc (by simp) _
  unfold Z8 at hW0
  rw [hW0]
  refine wpIn_range (base := w.heap.size) (T0 := fun _ => False) rfl (fun h => absurd h (by simp [Fence.wide])) (gf := 34) (lb := #[.pointer (some ⟨w.heap.size + 1, 0, none⟩)]) rfl trivial (enters_of Try.func34 (by kernel_rfl) rfl)
    (levels_iter _ w.heap.size (w.heap.size + 1) A c l W0 hl hs b1 (Kd.C_below hr bB)) (fun _ => rfl) ?hX
    (fun pre O W => O = (fun k => k = w.heap.size) ∧ W.heap[w.heap.size]? = some (outOf pre) ∧ Below w.heap.size w W)
    (fun _ _ _ _ => False) ?hI (fun _ _ _ _ _ h _ => h) (by omega) (fun _ h => h.elim) (fun k => k = w.heap.size) ?hO ?h0
    (fun x => { tmps := #[.slice A l.length c, undef, .string ⟨#[]⟩, .pointer (some ⟨w.heap.size, 0, none⟩), .int .i64 x.k, .slice (some ⟨x.g, 0, none⟩) x.r.length x.r.length, .slice A l.length c, .func (.func 34) #[] #[.pointer (some ⟨w.heap.size + 1, 0, none⟩)], .int .i64 x.k, .slice (some ⟨x.g, 0, none⟩) x.r.length x.r.length, undef, undef, undef, undef, undef, undef, undef, undef, undef, undef], defers := [] })
    ?assign ?body ?done ?stop
  case hX =>
    rintro pre x W L o o' ⟨h0, h1, h2⟩ hl ho
    refine ⟨h0, (World.putObj_heap_other ?_).trans h1, h2⟩
    rintro rfl
    rw [h1] at hl
    cases hl
    simp [Obj.isCells] at ho
  case hI =>
    rintro pre O W W' ⟨rfl, h1, h2⟩ hst
    exact ⟨rfl, hst.same h1 (fun h => h.2 rfl), h2.trans (hst.below (fun k h => h.1) h2.size)⟩
  case hO => rintro k rfl; exact ⟨Nat.le_refl _, fun h => h, by omega⟩
  case h0 => exact ⟨rfl, b0, bB⟩
  case assign =>
    intro L x W K hK
    simp only [Lv.encs]
    gi_wp2
    exact hK
  case body =>
    rintro L pre x O W ⟨rfl, h1, h2⟩ ⟨-, hx, hxs, -⟩ hO hsz
    obtain ⟨v0, v1, v2, v3, v4, v5, v6, v7, hov⟩ := outOf_form pre
    by_cases h01 : x.r.length = 1
    · have t1 : ((x.r.length : Int) == 1) = true := by simp [h01]
      obtain ⟨top, htop⟩ : ∃ top, x.r[0]? = some top := ⟨_, List.getElem?_eq_getElem (by omega)⟩
      have hst := hxs top (List.mem_of_getElem? htop)
      have hc0 : W.cell? ⟨x.g, 0, none⟩ = some (.string top) := by simp [World.cell?, hx, strs, htop]
      have hx0 : 0 < x.r.length := by omega
      have HO := Lib.hid (outOf_snoc pre x top h01 htop)
      have HT := Lib.hid h01
      rw [hov] at h1
      have H1 := Lib.hid h1
      have HX := Lib.hid hx
      clear htop h01 h1 hx hov
      gi_wp2_with (refine ⟨trivial, ?_⟩; gi_at_call 31; refine (CallsIn.inRound L (callsIn_wide.2 (rooted_any x.k top hst _))).mono ?_; rintro e w3 ⟨rfl, hB3⟩; have hZ1 := (hB3.block _ (lt_of_block H1.out)).trans H1.out; obtain ⟨m0, m1, m2, m3, m4, m5, m6, m7⟩ := cells8 hZ1; obtain ⟨q0, q1, q2, q3, q4, q5, q6, q7⟩ := free8 hZ1; have HZ1 := Lib.hid hZ1; clear hZ1; unfold sumV)
      have e8 := set_blk (set_blk (set_blk (set_blk (set_blk (set_blk (set_blk (set_blk HZ1.out 0 (.int .u8 (bb (rx x.k top) 16777216))) 1 (.int .u8 (bb (rx x.k top) 65536))) 2 (.int .u8 (bb (rx x.k top) 256))) 3 (.int .u8 (bb (rx x.k top) 1))) 4 (.int .u8 (bb (ry x.k top) 16777216))) 5 (.int .u8 (bb (ry x.k top) 65536))) 6 (.int .u8 (bb (ry x.k top) 256))) 7 (.int .u8 (bb (ry x.k top) 1))
      refine ⟨fun k => k = w.heap.size, ⟨rfl, ?_, ?_⟩, fun k h => .inl h, ?_, ?_⟩
      · rw [HO.out]
        refine e8.trans ?_
        simp [outV]
      · exact ((((((((h2.trans (hB3.mono h2.size)).setCell (p := ⟨_, 0, none⟩) (Nat.le_refl _) _).setCell (p := ⟨_, 1, none⟩) (Nat.le_refl _) _).setCell (p := ⟨_, 2, none⟩) (Nat.le_refl _) _).setCell (p := ⟨_, 3, none⟩) (Nat.le_refl _) _).setCell (p := ⟨_, 4, none⟩) (Nat.le_refl _) _).setCell (p := ⟨_, 5, none⟩) (Nat.le_refl _) _).setCell (p := ⟨_, 6, none⟩) (Nat.le_refl _) _).setCell (p := ⟨_, 7, none⟩) (Nat.le_refl _) _
      · intro k hk
        have := (hO k hk).2
        have := hB3.size
        simp [World.setCell]
        omega
      · exact ((((((((Step.of_below hB3 (fun k => k = w.heap.size)).setCell (p := ⟨_, 0, none⟩) (.inl rfl) _).setCell (p := ⟨_, 1, none⟩) (.inl rfl) _).setCell (p := ⟨_, 2, none⟩) (.inl rfl) _).setCell (p := ⟨_, 3, none⟩) (.inl rfl) _).setCell (p := ⟨_, 4, none⟩) (.inl rfl) _).setCell (p := ⟨_, 5, none⟩) (.inl rfl) _).setCell (p := ⟨_, 6, none⟩) (.inl rfl) _).setCell (p := ⟨_, 7, none⟩) (.inl rfl) _
    · have t1 : ((x.r.length : Int) == 1) = false := by simp; omega
      gi_wp2
      refine ⟨_, ⟨rfl, ?_, h2⟩, fun k h => .inl h, fun k h => (hO k h).2, Step.refl _ _⟩
      rw [outOf_no pre x h01]
      exact h1
  case done =>
    rintro D xs O W hD hS ⟨rfl, h1, h2⟩ hOD hK
    obtain ⟨h, hup, hlast⟩ := outOf_last l xs hS
    rw [hlast] at h1
    obtain ⟨m0, m1, m2, m3, m4, m5, m6, m7⟩ := cells8 h1
    have HL := Lib.hid hlast
    clear hlast hS h1
    gi_wp2_with (refine ⟨trivial, ?_⟩; gi_at_call 26; refine (callsIn_wide.2 (text_any (rx h ((lev (fill l (2 ^ h)) h).getD 0 ⟨#[]⟩)) (ry h ((lev (fill l (2 ^ h)) h).getD 0 ⟨#[]⟩)) _)).mono ?_; rintro e w3 ⟨rfl, hB3⟩)
    have hK3 := (hB3.block _ (lt_of_block hK)).trans hK
    refine ⟨by simp, .inl ⟨_, _, rfl, run_takeDeferred hK3, ?_⟩⟩
    refine ⟨_, results_tmp rfl _ _ _, h, hup, ?_, ?_⟩
    · rw [← root_eq]; rfl
    · have hz : w.heap.size ≤ D := by omega
      exact (h2.trans (hB3.mono h2.size)).trans ((Step.putObj _ _ _).below (fun k e => by subst e; exact hz) (Nat.le_trans h2.size hB3.size))
  case stop =>
    rintro D c pre O W hD hS h hOD hK
    exact h.elim
end Go.Proofs.Ytgepeapfninmeaa.Dg
