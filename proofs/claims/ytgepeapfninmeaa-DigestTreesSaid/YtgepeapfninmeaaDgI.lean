/- The walk of DigestTrees: two trees, one behind the other. -/
import Derived.Test.YtgepeapfninmeaaDgH
set_option linter.unusedVariables false
set_option linter.unusedSimpArgs false
namespace Go.Proofs.Ytgepeapfninmeaa.Pure
open Go.RowKit Go.Proofs.Ytgepeapfninmeaa.Pa Go.Proofs.YtgepeapfninmeaaW.PrintWords Go.Proofs.YtgepeapfninmeaaW.PrintLast Go.Proofs.YtgepeapfninmeaaW.PrintMore Go.Proofs.Ytgepeapfninmeaa.Gv Go.Proofs.Ytgepeapfninmeaa.Dg
attribute [local go_sem] max2_int min2_int max_two min_two
theorem many_facts (r : Int) (hr : 0 ≤ r ∧ r ≤ 2) : IntKind.i64.wrap (2 * 2 ^ r.toNat) = ((2 ^ (r.toNat + 1) : Nat) : Int) ∧ 1 ≤ r.toNat + 1 ∧ r.toNat + 1 ≤ 3 ∧ hof (2 ^ (r.toNat + 1)) = r.toNat + 1 := by
  obtain rfl | rfl | rfl : r = 0 ∨ r = 1 ∨ r = 2 := by omega
  · decide
  · decide
  · decide
theorem cut_facts (e : ByteArray) (j : Int) (hj : (if (40 : Int) < (e.size : Int) then 40 else (e.size : Int)) = j) : (0 ≤ j) = True ∧ (j ≤ (e.size : Int)) = True ∧ e.extract 0 j.toNat = cut40 e := by
  refine ⟨eq_true (by rw [← hj]; split <;> omega), eq_true (by rw [← hj]; split <;> omega), ?_⟩
  unfold cut40
  congr 1
  rw [← hj]
  split <;> omega
theorem below_drewNx {B : Nat} {w W : World} (h : Below B w W) {m : Nat} : Below B w (W.drewN m) := pw_below_drewN h m
theorem wrap_succ (j : Nat) (h : j ≤ 1000) : IntKind.i64.wrap ((j : Int) + 1) = ((j + 1 : Nat) : Int) ∧ wrap64 ((j : Int) + 1) = ((j + 1 : Nat) : Int) := by
  constructor
  · rw [IntKind.wrap_i64]; omega
  · unfold wrap64; omega
theorem wrap_small (x : Int) (h0 : -9223372036854775808 ≤ x) (h1 : x < 9223372036854775808) : IntKind.i64.wrap x = x := by rw [IntKind.wrap_i64]; omega
set_option maxHeartbeats 4000000 in
set_option maxRecDepth 100000 in
theorem trees_walk (e0 e1 e2 e3 e4 e5 e6 e7 : ByteArray) (n : Int) (w : World) (hn : 0 ≤ n ∧ n ≤ 255) :
    Calls Try.prog 10 #[.agg #[.string e0, .string e1, .string e2, .string e3, .string e4, .string e5, .string e6, .string e7], .int .u8 n] w fun e w' => e = .returned (.bool true) ∧ Below w.heap.size w w' := by
  obtain ⟨k1, hk1⟩ := Ev.rounds (g := fun k => abugidalaw03_sanity.f k) sanity_ev
  obtain ⟨r, hr⟩ : ∃ r, n.tmod 3 = r := ⟨_, rfl⟩
  have hrb : 0 ≤ r ∧ r ≤ 2 := by rw [Int.tmod_eq_emod_of_nonneg hn.1] at hr; omega
  obtain ⟨m1, m2, m3, m4⟩ := many_facts r hrb
  obtain ⟨h, hh⟩ : ∃ h, h = r.toNat + 1 := ⟨_, rfl⟩
  rw [← hh] at m1 m2 m3 m4
  obtain ⟨T, hT⟩ : ∃ T : Nat, T = 2 ^ h := ⟨_, rfl⟩
  rw [← hT] at m1 m4
  obtain ⟨M, hM⟩ : ∃ M : Int, M = (T : Int) := ⟨_, rfl⟩
  rw [← hM] at m1
  have hM8 : T ≤ 8 := by
    have : 2 ^ h ≤ 2 ^ 3 := Nat.pow_le_pow_right (by omega) m3
    omega
  obtain ⟨E, hE⟩ : ∃ E : List ByteArray, E = [e0, e1, e2, e3, e4, e5, e6, e7] := ⟨_, rfl⟩
  have hE8 : E.length = 8 := by rw [hE]; rfl
  have H1 := Lib.hid hk1
  have HE := Lib.hid hE
  have HM := Lib.hid hM
  have HT := Lib.hid hT
  have HM8 := Lib.hid hM8
  have HH := Lib.hid hh
  have H4 := Lib.hid m4
  clear hk1 hE hM hM8 m4 hT
  obtain ⟨Wb, hWb⟩ : ∃ W, W = w.alloc (.cells #[.string e0, .string e1, .string e2, .string e3, .string e4, .string e5, .string e6, .string e7] 43) := ⟨_, rfl⟩
  have hbb : Below w.heap.size w Wb := by rw [hWb]; exact below_alloc (Below.refl _ _) _
  have hbl : Wb.heap[w.heap.size]? = some (.cells #[.string e0, .string e1, .string e2, .string e3, .string e4, .string e5, .string e6, .string e7] 43 (0, 0)) := by rw [hWb]; exact blk_new w _
  have HBB := Lib.hid hbb
  have HBL := Lib.hid hbl
  have HWb := Lib.hid hWb
  clear hbb hbl hWb hh
  go_enter Try.func10, Try.ntmps10
  go_wp2_with (go_at_call 11; rw [← HWb.out]; with_reducible refine (abugidalaw03_sanity.calls k1 true _ H1.out).mono ?_; rintro e w1 ⟨rfl, hb1⟩; have HB1 := Lib.hid hb1; clear hb1)
  clear m1 hr hrb
  have hel : ∀ m : Nat, m < 8 → ∃ s, E[m]? = some s ∧ w1.cell? ⟨w.heap.size, m, none⟩ = some (.string s) := by
    have hc := (HB1.out.block _ (lt_of_block HBL.out)).trans HBL.out
    intro m hm
    rw [HE.out]
    obtain rfl | rfl | rfl | rfl | rfl | rfl | rfl | rfl : m = 0 ∨ m = 1 ∨ m = 2 ∨ m = 3 ∨ m = 4 ∨ m = 5 ∨ m = 6 ∨ m = 7 := by omega
    · exact ⟨e0, rfl, cell_heap hc _ _ rfl⟩
    · exact ⟨e1, rfl, cell_heap hc _ _ rfl⟩
    · exact ⟨e2, rfl, cell_heap hc _ _ rfl⟩
    · exact ⟨e3, rfl, cell_heap hc _ _ rfl⟩
    · exact ⟨e4, rfl, cell_heap hc _ _ rfl⟩
    · exact ⟨e5, rfl, cell_heap hc _ _ rfl⟩
    · exact ⟨e6, rfl, cell_heap hc _ _ rfl⟩
    · exact ⟨e7, rfl, cell_heap hc _ _ rfl⟩
  have HEL := Lib.hid hel
  have HBw := Lib.hid (HBB.out.trans (HB1.out.mono HBB.out.size))
  obtain ⟨X, hX⟩ : ∃ X : List ByteArray, X = E.map cut40 := ⟨_, rfl⟩
  have HX := Lib.hid hX
  clear hel hX HBL HWb HBB HB1
  go_loopw [7, 8] (fun v i wr => ∃ m : Nat, i = .int .i64 m ∧ m ≤ T ∧ Kd.R Kd.string 9 wr w1.heap.size (fun _ => True) v (X.take m) ∧ Below w1.heap.size w1 wr) (fun _ i _ => T - (intOf i).toNat)
  case atStart => exact ⟨0, rfl, Nat.zero_le _, Kd.R_nil _ _ _ _ _, Below.refl _ _⟩
  case round =>
    obtain ⟨m, rfl, hm, hO, hb⟩ := hrel
    have HO := Lib.hid hO
    have HB := Lib.hid hb
    clear hO hb
    by_cases hlt : m < T
    · have hx1 : decide ((m : Int) < M) = true := decide_eq_true (by rw [HM.out]; omega)
      have hm8 : m < 8 := by have := HM8.out; omega
      obtain ⟨s, hs, hc⟩ := HEL.out m hm8
      have c0 : wr.cell? ⟨w.heap.size, m, none⟩ = some (.string s) := (HB.out.cell (World.block_lt_of_cell? w1 _ hc)).trans hc
      obtain ⟨j, hj⟩ : ∃ j : Int, (if (40 : Int) < (s.size : Int) then 40 else (s.size : Int)) = j := ⟨_, rfl⟩
      obtain ⟨d0, d1, d2⟩ := cut_facts s j hj
      have d3 : (0 ≤ (m : Int)) = True := eq_true (by omega)
      have d4 : ((m : Int) < 8) = True := eq_true (by omega)
      have HBd := Lib.hid (below_drew1 HB.out)
      have HOd := Lib.hid (Kd.R_drew HO.out)
      have hlt0 : (⟨w.heap.size, m, none⟩ : Addr).block < w1.heap.size := World.block_lt_of_cell? w1 _ hc
      have c0d : wr.drew.cell? ⟨w.heap.size, m, none⟩ = some (.string s) := c0
      have HC := Lib.hid hc
      have HS := Lib.hid hs
      have HLT := Lib.hid hlt
      clear hc hs hlt
      go_wp2
      refine start_ (n := 13) (S := fun w' => w'.cell? ⟨w.heap.size, m, none⟩ = some (.string s)) (ds := []) #[false, false, false, false, false, false, false, false, false, false, false, false, false] (by kernel_rfl) rfl rfl (c0d) (fun hHeld => ?_)
      generalize wr.drew = wd at HOd HBd c0d hHeld ⊢
      refine pure_ (i := 0) (N := some 24) (v := ?_) (a' := ?_) #[true, false, false, false, false, false, false, false, false, false, false, false, false] rfl rfl (by kernel_rfl) (fun _ _ _ h => h) (Or.inl ⟨by rfl, ?_⟩) ?_ ?_
      rotate_left
      · intro w'
        go_simp
        with_reducible rfl
      rotate_left
      · simp only [Act.put, List.setIfInBounds_toArray, List.set_cons_zero, List.set_cons_succ, i64_w, i32_w]
        rfl
      refine pure_ (i := 1) (N := some 25) (v := ?_) (a' := ?_) #[true, true, false, false, false, false, false, false, false, false, false, false, false] rfl rfl (by kernel_rfl) (fun _ _ _ h => h) (Or.inl ⟨by rfl, ?_⟩) ?_ ?_
      rotate_left
      · intro w'
        go_simp
        with_reducible rfl
      rotate_left
      · simp only [Act.put, List.setIfInBounds_toArray, List.set_cons_zero, List.set_cons_succ, i64_w, i32_w]
        rfl
      refine pure_ (i := 2) (N := some 26) (v := ?_) (a' := ?_) #[true, true, true, false, false, false, false, false, false, false, false, false, false] rfl rfl (by kernel_rfl) (fun _ _ _ h => h) (Or.inl ⟨by rfl, ?_⟩) ?_ ?_
      rotate_left
      · intro w'
        go_simp
        with_reducible rfl
      rotate_left
      · simp only [Act.put, List.setIfInBounds_toArray, List.set_cons_zero, List.set_cons_succ, i64_w, i32_w]
        rfl
      refine pure_ (i := 4) (N := some 28) (v := ?_) (a' := ?_) #[true, true, true, false, true, false, false, false, false, false, false, false, false] rfl rfl (by kernel_rfl) (fun _ _ _ h => h) (Or.inl ⟨by rfl, ?_⟩) ?_ ?_
      rotate_left
      · intro w'
        go_simp
        with_reducible rfl
      rotate_left
      · simp only [Act.put, List.setIfInBounds_toArray, List.set_cons_zero, List.set_cons_succ, i64_w, i32_w]
        rfl
      refine pure_ (i := 5) (N := some 29) (v := ?_) (a' := ?_) #[true, true, true, false, true, true, false, false, false, false, false, false, false] rfl rfl (by kernel_rfl) (fun _ _ _ h => h) (Or.inl ⟨by rfl, ?_⟩) ?_ ?_
      rotate_left
      · intro w'
        go_simp
        with_reducible rfl
      rotate_left
      · simp only [Act.put, List.setIfInBounds_toArray, List.set_cons_zero, List.set_cons_succ, i64_w, i32_w]
        rfl
      refine take_ (i := 3) (N := some 27) (v := ?_) (a' := ?_) #[true, true, true, true, true, true, false, false, false, false, false, false, false] rfl rfl (by kernel_rfl) (fun _ _ _ h => h) (Or.inl ⟨by rfl, ?_⟩) hHeld ?_ ?_
      rotate_left
      · intro w' s0
        go_simp
        with_reducible rfl
      rotate_left
      · simp only [Act.put, List.setIfInBounds_toArray, List.set_cons_zero, List.set_cons_succ, i64_w, i32_w]
        rfl
      refine take_ (i := 6) (N := some 30) (v := ?_) (a' := ?_) #[true, true, true, true, true, true, true, false, false, false, false, false, false] rfl rfl (by kernel_rfl) (fun _ _ _ h => h) (Or.inl ⟨by rfl, ?_⟩) hHeld ?_ ?_
      rotate_left
      · intro w' s0
        go_simp
        with_reducible rfl
      rotate_left
      · simp only [Act.put, List.setIfInBounds_toArray, List.set_cons_zero, List.set_cons_succ, i64_w, i32_w]
        rfl
      refine pure_ (i := 7) (N := some 31) (v := ?_) (a' := ?_) #[true, true, true, true, true, true, true, true, false, false, false, false, false] rfl rfl (by kernel_rfl) (fun _ _ _ h => h) (Or.inl ⟨by rfl, ?_⟩) ?_ ?_
      rotate_left
      · intro w'
        go_simp
        with_reducible rfl
      rotate_left
      · simp only [Act.put, List.setIfInBounds_toArray, List.set_cons_zero, List.set_cons_succ, i64_w, i32_w]
        rfl
      refine pure_ (i := 8) (N := some 32) (v := ?_) (a' := ?_) #[true, true, true, true, true, true, true, true, true, false, false, false, false] rfl rfl (by kernel_rfl) (fun _ _ _ h => h) (Or.inl ⟨by rfl, ?_⟩) ?_ ?_
      rotate_left
      · intro w'
        go_simp
        with_reducible rfl
      rotate_left
      · simp only [Act.put, List.setIfInBounds_toArray, List.set_cons_zero, List.set_cons_succ, i64_w, i32_w]
        rfl
      refine pure_ (i := 9) (N := some 33) (v := ?_) (a' := ?_) #[true, true, true, true, true, true, true, true, true, true, false, false, false] rfl rfl (by kernel_rfl) (fun _ _ _ h => h) (Or.inl ⟨by rfl, ?_⟩) ?_ ?_
      rotate_left
      · intro w'
        go_simp
        with_reducible rfl
      rotate_left
      · simp only [Act.put, List.setIfInBounds_toArray, List.set_cons_zero, List.set_cons_succ, i64_w, i32_w]
        rfl
      refine one_ (i := 10) (N := some 34) #[true, true, true, true, true, true, true, true, true, true, true, false, false] rfl rfl (by kernel_rfl) (by decide) (fun K hK => ?_)
      refine value_ (w1 := ?_) (v := ?_) (by rfl) rfl ?_ ?_
      rotate_left 2
      · go_simp
        constructor
        · rfl
        · rfl
      refine hK.out _ _ ((World.cell?_alloc_lt _ _ _ (World.block_lt_of_cell? _ _ c0d)).trans c0d) (fun hHeld => ?_)
      clear hK K
      refine norm_ (a' := ?_) ?_ ?_
      rotate_left
      · show Act.put _ (some 34) _ = _
        simp only [Act.put, List.setIfInBounds_toArray, List.set_cons_zero, List.set_cons_succ, i64_w, i32_w]
        rfl
      refine one_ (i := 11) (N := some 35) #[true, true, true, true, true, true, true, true, true, true, true, true, false] rfl rfl (by kernel_rfl) (by decide) (fun K hK => ?_)
      refine Kd.R_append_step Kd.string (w0 := w1) w1.heap.size (by rfl) (.tmp 24) (.tmp 34) 26 9 (.string ⟨#[]⟩) 16 rfl Try.underlying26 info9 rfl (by decide) (by omega) u7 (X.take m) (cut40 s) [.string (cut40 s)] (fun _ => True) (fun _ => False) rfl rfl ?aP (fun _ hk => hk.elim) ?aF ?aO ?aB ?aS ?aL ?_
      (case aP => exact rfl)
      (case aF => exact fun _ _ => trivial)
      (case aO => exact HOd.out)
      (case aB => exact HBd.out)
      (case aS => exact HBd.out.size)
      (case aL => simp only [List.length_take]; omega)
      intro v9 w9 ho9 hb9 hg9 hat9
      have HO9 := Lib.hid ho9
      have HB9 := Lib.hid hb9
      clear ho9 hb9 hg9 hat9
      refine hK.out _ _ ((HB9.out.cell hlt0).trans HC.out) (fun hHeld => ?_)
      clear hK K
      refine norm_ (a' := ?_) ?_ ?_
      rotate_left
      · show Act.put _ (some 35) _ = _
        simp only [Act.put, List.setIfInBounds_toArray, List.set_cons_zero, List.set_cons_succ, i64_w, i32_w]
        rfl
      refine pure_ (i := 12) (N := some 7) (v := ?_) (a' := ?_) #[true, true, true, true, true, true, true, true, true, true, true, true, true] rfl rfl (by kernel_rfl) (fun _ _ _ h => h) (Or.inl ⟨by rfl, ?_⟩) ?_ ?_
      rotate_left
      · intro w'
        go_simp
        with_reducible rfl
      rotate_left
      · simp only [Act.put, List.setIfInBounds_toArray, List.set_cons_zero, List.set_cons_succ, i64_w, i32_w]
        rfl
      refine done_ (by kernel_rfl) ?_
      go_wp2
      go_roundw
      case rel =>
        refine ⟨m + 1, by go_num, by have := HLT.out; omega, ?_, HB9.out⟩
        have ht : X.take (m + 1) = X.take m ++ [cut40 s] := by
          rw [List.take_add_one, HX.out, List.getElem?_map, HS.out]
          rfl
        rw [ht]
        exact HO9.out
      case measure => have := HLT.out; simp [intOf]; omega
    · obtain ⟨W, hW⟩ : ∃ W, W = X.take T := ⟨_, rfl⟩
      obtain rfl : T = m := by omega
      have hx1 : decide ((T : Int) < M) = false := decide_eq_false (by rw [HM.out]; omega)
      have hWl : W.length = T := by rw [hW, List.length_take, HX.out, List.length_map, hE8]; have := HM8.out; omega
      have hWs : ∀ t ∈ W, t.size ≤ 9000 := fun t ht => by
        rw [hW] at ht
        have := List.mem_of_mem_take ht
        rw [HX.out] at this
        obtain ⟨y, _, rfl⟩ := List.mem_map.1 this
        exact Nat.le_trans (show (cut40 y).size ≤ 40 by unfold cut40; rw [ByteArray.size_extract]; omega) (by omega)
      have hO2 := HO.out
      rw [← hW] at hO2
      obtain ⟨A7, c7, rfl, hl7, hC7⟩ := Kd.R_reads hO2
      have HC7 := Lib.hid hC7
      have HW := Lib.hid hW
      have HWL := Lib.hid hWl
      have HWS := Lib.hid hWs
      clear hO2 hC7 hW hWl hWs HO
      go_wp2_with (first
        | ((with_reducible refine gate_dst (N := 36) rfl ?_); refine Kd.R_lit Kd.string wr.heap.size 9 ?hg (N := 36) ?hd (w0 := wr) (xs := ([] : List ByteArray)) (inner := []) (ok := fun _ => True) (okp := fun _ => True) ?hr ?hp (fun _ hk => hk) trivial (Below.refl _ _) (Nat.le_refl _) (by simp) ?_; (case hd => rfl); (case hg => rfl); (case hr => first | (go_simp; done) | (go_simp; rfl)); (case hp => exact (Reps.none _ _)); intro v5 w5 ho5 hb5 hg_ hnew_; have HO5 := Lib.hid ho5; have HB5 := Lib.hid hb5; clear hg_ hnew_ ho5 hb5)
        | ((with_reducible refine gate_builtin (b := .append) (xs := #[.tmp 36, .tmp 37]) rfl ?_); at_builtin; refine Kd.R_append_rows Kd.string (w0 := wr) wr.heap.size rfl (.tmp 36) (.tmp 37) 26 9 (.string ⟨#[]⟩) 16 rfl Try.underlying26 info9 rfl (by decide) (by omega) v5 [] W A7 W.length c7 (fun _ => True) (fun _ => False) rfl rfl ?aO ?aR (fun _ _ h => h) (fun _ h => h.elim) ?aF ?aB ?aS ?aL ?_; (case aR => exact Kd.C_below HC7.out HB5.out); (case aB => exact HB5.out); (case aF => exact fun _ _ => trivial); (case aO => exact HO5.out); (case aS => exact HB5.out.size); (case aL => have := HWL.out; have := HM8.out; simp; omega); intro v6 w6 ho6 hb6 hg6 hat6; simp only [List.nil_append] at ho6; obtain ⟨A6, c6, rfl, hl6, hC6⟩ := Kd.R_reads ho6; have HC6 := Lib.hid hC6; have HB6 := Lib.hid (HB.out.trans (hb6.mono HB.out.size)); have HC76 := Lib.hid (Kd.C_below HC7.out hb6); clear ho6 hb6 hg6 hat6 HO5 HB5 hC6))
      clear hx1
      have hfill : fill W (2 ^ h) = W := by unfold fill; rw [HWL.out, HT.out, Nat.sub_self]; simp
      have HFL := Lib.hid hfill
      have hlev : ∀ k, k ≤ h → (lev W k).length = 2 ^ (h - k) := by
        have := lev_len W h (by rw [HWL.out, HT.out]; exact Nat.le_refl _)
        rw [hfill] at this
        exact this
      have HLV := Lib.hid hlev
      clear hfill hlev
      go_loopw [7, 10] (fun v i wj => ∃ (j : Nat) (A : Option Addr) (c : Nat), v = .slice A (lev W j).length c ∧ (lev W j).length ≤ c ∧ Kd.string.C wj A (lev W j).length (lev W j) ∧ i = .int .i64 j ∧ j ≤ h ∧ Below w6.heap.size w6 wj) (fun _ i _ => h - (intOf i).toNat)
      case atStart => exact ⟨0, A7, c7, rfl, hl7, HC76.out, rfl, Nat.zero_le _, Below.refl _ _⟩
      case round =>
        obtain ⟨j, A, c, rfl, hlc, hC, rfl, hj, hb⟩ := hrel
        obtain ⟨wj, hwj⟩ : ∃ W, W = wr := ⟨_, rfl⟩
        subst hwj
        obtain ⟨Rw, hRw⟩ : ∃ Rw, Rw = lev W j := ⟨_, rfl⟩
        have hlen := HLV.out j hj
        rw [← hRw] at hlen hlc hC
        rw [← hRw]
        have HRW := Lib.hid hRw
        have HLEN := Lib.hid hlen
        have HC := Lib.hid hC
        have HBj := Lib.hid hb
        clear hRw hC hb hlen
        by_cases hjh : j < h
        · obtain ⟨y, hy⟩ : ∃ y, 2 ^ (h - j) = 2 * y ∧ 1 ≤ y := ⟨2 ^ (h - (j + 1)), by rw [show h - j = (h - (j + 1)) + 1 by omega, Nat.pow_succ]; omega, Nat.pow_pos (by omega)⟩
          have hRl : Rw.length = 2 * y := HLEN.out.trans hy.1
          have hR8 : Rw.length ≤ 8 := by
            have h8 : 2 ^ (h - j) ≤ 2 ^ 3 := Nat.pow_le_pow_right (by omega) (by omega)
            rw [HLEN.out]; omega
          have hx : decide (1 < Rw.length) = true := decide_eq_true (by omega)
          have hx' : decide ((1 : Int) < (Rw.length : Int)) = true := decide_eq_true (by omega)
          obtain ⟨ad, eA, _⟩ := HC.out.2.2 (by omega)
          subst eA
          have HRL := Lib.hid hRl
          have HR8 := Lib.hid hR8
          have HY := Lib.hid hy
          clear hRl hR8 hy
          go_wp2
          go_loopw [11, 12] (fun v i wr => ∃ (m : Nat) (k0 : Int), k0 = ((2 * m : Nat) : Int) ∧ i = .int .i64 k0 ∧ m ≤ y ∧ Kd.R Kd.string 9 wr wj.heap.size (fun _ => True) v ((above Rw).take m) ∧ Below wj.heap.size wj wr) (fun _ i _ => (2 * y - intOf i).toNat)
          case atStart => exact ⟨0, 0, rfl, rfl, Nat.zero_le _, Kd.R_nil _ _ _ _ _, Below.refl _ _⟩
          case round =>
            obtain ⟨m, k0, hk0, rfl, hm, hO, hb⟩ := hrel
            have HO := Lib.hid hO
            have HB := Lib.hid hb
            clear hO hb
            by_cases hmy : m < y
            · have hRl := HRL.out
              have hR8 := HR8.out
              obtain ⟨p0, hp0⟩ := get_some (l := Rw) (i := 2 * m) (by omega)
              obtain ⟨p1, hp1⟩ := get_some (l := Rw) (i := 2 * m + 1) (by omega)
              obtain ⟨z1, hz1⟩ : ∃ z : Int, z = ((2 * m + 1 : Nat) : Int) := ⟨_, rfl⟩
              obtain ⟨z2, hz2⟩ : ∃ z : Int, z = ((2 * (m + 1) : Nat) : Int) := ⟨_, rfl⟩
              have e1 : IntKind.i64.wrap (k0 + 1) = z1 := (wrap_small _ (by omega) (by omega)).trans (by omega)
              have e2 : IntKind.i64.wrap (k0 + 2) = z2 := (wrap_small _ (by omega) (by omega)).trans (by omega)
              have e1' : wrap64 (k0 + 1) = z1 := (w64 (by omega) (by omega)).trans (by omega)
              have e2' : wrap64 (k0 + 2) = z2 := (w64 (by omega) (by omega)).trans (by omega)
              have hxx : decide (z1 < (Rw.length : Int)) = true := decide_eq_true (by omega)
              have i0 : (0 ≤ k0) = True := eq_true (by omega)
              have i1 : (k0 < (Rw.length : Int)) = True := eq_true (by omega)
              have i2 : (0 ≤ z1) = True := eq_true (by omega)
              have i3 : (z1 < (Rw.length : Int)) = True := eq_true (by omega)
              have hc0 : wj.cell? (ad.add k0.toNat) = some (.string p0) := by
                have := Kd.foot_string HC.out k0 (by omega) (by omega)
                rw [hk0, rd_some hp0] at this
                rw [hk0]; exact this
              have hc1 : wj.cell? (ad.add z1.toNat) = some (.string p1) := by
                have := Kd.foot_string HC.out z1 (by omega) (by omega)
                rw [hz1, rd_some hp1] at this
                rw [hz1]; exact this
              have hm0 : p0.size ≤ 9000 := lev_mem W HWS.out j p0 (by rw [← HRW.out]; exact List.mem_of_getElem? hp0)
              have hm1 : p1.size ≤ 9000 := lev_mem W HWS.out j p1 (by rw [← HRW.out]; exact List.mem_of_getElem? hp1)
              have HPR := Lib.hid (pair_some p0 p1 (by omega) (by omega))
              have hlt0 := World.block_lt_of_cell? wj _ hc0
              have hlt1 := World.block_lt_of_cell? wj _ hc1
              have c0d : wr.drew.cell? (ad.add k0.toNat) = some (.string p0) := (HB.out.cell hlt0).trans hc0
              have c1d : wr.drew.cell? (ad.add z1.toNat) = some (.string p1) := (HB.out.cell hlt1).trans hc1
              have HBd := Lib.hid (below_drew1 HB.out)
              have HOd := Lib.hid (Kd.R_drew HO.out)
              have hab := above_get Rw m p0 p1 (by omega) hp0 hp1
              have HAB := Lib.hid hab
              have HC0 := Lib.hid hc0
              have HC1 := Lib.hid hc1
              have HZ2 := Lib.hid hz2
              have HK0 := Lib.hid hk0
              have HMY := Lib.hid hmy
              clear hab hc0 hc1 hz1 hz2 hk0 hp0 hp1 hm0 hm1 hRl hR8 hmy
              go_wp2
              refine start_ (n := 14) (S := fun w' => w'.cell? (ad.add k0.toNat) = some (.string p0) ∧ w'.cell? (ad.add z1.toNat) = some (.string p1)) (ds := []) #[false, false, false, false, false, false, false, false, false, false, false, false, false, false] (by kernel_rfl) rfl rfl ⟨c0d, c1d⟩ (fun hHeld => ?_)
              generalize wr.drew = wd at HOd HBd c0d c1d hHeld ⊢
              refine pure_ (i := 0) (N := some 49) (v := ?_) (a' := ?_) #[true, false, false, false, false, false, false, false, false, false, false, false, false, false] rfl rfl (by kernel_rfl) (fun _ _ _ h => h) (Or.inl ⟨by rfl, ?_⟩) ?_ ?_
              rotate_left
              · intro w'
                go_simp
                with_reducible rfl
              rotate_left
              · simp only [Act.put, List.setIfInBounds_toArray, List.set_cons_zero, List.set_cons_succ, i64_w, i32_w]
                rfl
              refine pure_ (i := 1) (N := some 50) (v := ?_) (a' := ?_) #[true, true, false, false, false, false, false, false, false, false, false, false, false, false] rfl rfl (by kernel_rfl) (fun _ _ _ h => h) (Or.inl ⟨by rfl, ?_⟩) ?_ ?_
              rotate_left
              · intro w'
                go_simp
                with_reducible rfl
              rotate_left
              · simp only [Act.put, List.setIfInBounds_toArray, List.set_cons_zero, List.set_cons_succ, i64_w, i32_w]
                rfl
              refine pure_ (i := 2) (N := some 51) (v := ?_) (a' := ?_) #[true, true, true, false, false, false, false, false, false, false, false, false, false, false] rfl rfl (by kernel_rfl) (fun _ _ _ h => h) (Or.inl ⟨by rfl, ?_⟩) ?_ ?_
              rotate_left
              · intro w'
                go_simp
                with_reducible rfl
              rotate_left
              · simp only [Act.put, List.setIfInBounds_toArray, List.set_cons_zero, List.set_cons_succ, i64_w, i32_w]
                rfl
              refine pure_ (i := 3) (N := some 52) (v := ?_) (a' := ?_) #[true, true, true, true, false, false, false, false, false, false, false, false, false, false] rfl rfl (by kernel_rfl) (fun _ _ _ h => h) (Or.inl ⟨by rfl, ?_⟩) ?_ ?_
              rotate_left
              · intro w'
                go_simp
                with_reducible rfl
              rotate_left
              · simp only [Act.put, List.setIfInBounds_toArray, List.set_cons_zero, List.set_cons_succ, i64_w, i32_w]
                rfl
              refine pure_ (i := 5) (N := some 54) (v := ?_) (a' := ?_) #[true, true, true, true, false, true, false, false, false, false, false, false, false, false] rfl rfl (by kernel_rfl) (fun _ _ _ h => h) (Or.inl ⟨by rfl, ?_⟩) ?_ ?_
              rotate_left
              · intro w'
                go_simp
                with_reducible rfl
              rotate_left
              · simp only [Act.put, List.setIfInBounds_toArray, List.set_cons_zero, List.set_cons_succ, i64_w, i32_w]
                rfl
              refine pure_ (i := 6) (N := some 55) (v := ?_) (a' := ?_) #[true, true, true, true, false, true, true, false, false, false, false, false, false, false] rfl rfl (by kernel_rfl) (fun _ _ _ h => h) (Or.inl ⟨by rfl, ?_⟩) ?_ ?_
              rotate_left
              · intro w'
                go_simp
                with_reducible rfl
              rotate_left
              · simp only [Act.put, List.setIfInBounds_toArray, List.set_cons_zero, List.set_cons_succ, i64_w, i32_w]
                rfl
              refine pure_ (i := 7) (N := some 56) (v := ?_) (a' := ?_) #[true, true, true, true, false, true, true, true, false, false, false, false, false, false] rfl rfl (by kernel_rfl) (fun _ _ _ h => h) (Or.inl ⟨by rfl, ?_⟩) ?_ ?_
              rotate_left
              · intro w'
                go_simp
                with_reducible rfl
              rotate_left
              · simp only [Act.put, List.setIfInBounds_toArray, List.set_cons_zero, List.set_cons_succ, i64_w, i32_w]
                rfl
              refine pure_ (i := 8) (N := some 57) (v := ?_) (a' := ?_) #[true, true, true, true, false, true, true, true, true, false, false, false, false, false] rfl rfl (by kernel_rfl) (fun _ _ _ h => h) (Or.inl ⟨by rfl, ?_⟩) ?_ ?_
              rotate_left
              · intro w'
                go_simp
                with_reducible rfl
              rotate_left
              · simp only [Act.put, List.setIfInBounds_toArray, List.set_cons_zero, List.set_cons_succ, i64_w, i32_w]
                rfl
              refine take_ (i := 4) (N := some 53) (v := ?_) (a' := ?_) #[true, true, true, true, true, true, true, true, true, false, false, false, false, false] rfl rfl (by kernel_rfl) (fun _ _ _ h => h) (Or.inl ⟨by rfl, ?_⟩) hHeld ?_ ?_
              rotate_left
              · rintro w' ⟨s0, s1⟩
                go_simp
                with_reducible rfl
              rotate_left
              · simp only [Act.put, List.setIfInBounds_toArray, List.set_cons_zero, List.set_cons_succ, i64_w, i32_w]
                rfl
              refine take_ (i := 9) (N := some 58) (v := ?_) (a' := ?_) #[true, true, true, true, true, true, true, true, true, true, false, false, false, false] rfl rfl (by kernel_rfl) (fun _ _ _ h => h) (Or.inl ⟨by rfl, ?_⟩) hHeld ?_ ?_
              rotate_left
              · rintro w' ⟨s0, s1⟩
                go_simp
                with_reducible rfl
              rotate_left
              · simp only [Act.put, List.setIfInBounds_toArray, List.set_cons_zero, List.set_cons_succ, i64_w, i32_w]
                rfl
              refine one_ (i := 10) (N := some 59) #[true, true, true, true, true, true, true, true, true, true, true, false, false, false] rfl rfl (by kernel_rfl) (by decide) (fun K hK => ?_)
              refine goes_ Try.func15 (by kernel_rfl) rfl #[.string p0, .string p1] (by rfl) rfl rfl (by simp only [List.map_toArray, List.map_cons, List.map_nil]; rfl) ?_
              with_reducible refine (digest_Pair.calls p0 p1 (PairB p0 p1) _ HPR.out).mono ?_
              rintro e wp ⟨rfl, hbp⟩
              refine ⟨_, rfl, ?_⟩
              have HBp := Lib.hid (HBd.out.trans (hbp.mono HBd.out.size))
              have HOp := Lib.hid (Kd.R_below HOd.out hbp)
              clear hbp
              refine hK.out _ _ ⟨(HBp.out.cell hlt0).trans HC0.out, (HBp.out.cell hlt1).trans HC1.out⟩ (fun hHeld => ?_)
              clear hK K
              refine norm_ (a' := ?_) ?_ ?_
              rotate_left
              · show Act.put _ (some 59) _ = _
                simp only [Act.put, List.setIfInBounds_toArray, List.set_cons_zero, List.set_cons_succ, i64_w, i32_w]
                rfl
              refine one_ (i := 11) (N := some 60) #[true, true, true, true, true, true, true, true, true, true, true, true, false, false] rfl rfl (by kernel_rfl) (by decide) (fun K hK => ?_)
              refine value_ (w1 := ?_) (v := ?_) (by rfl) rfl ?_ ?_
              rotate_left 2
              · go_simp
                constructor
                · rfl
                · rfl
              refine hK.out _ _ ⟨(World.cell?_alloc_lt _ _ _ (World.block_lt_of_cell? _ _ ((HBp.out.cell hlt0).trans HC0.out))).trans ((HBp.out.cell hlt0).trans HC0.out), (World.cell?_alloc_lt _ _ _ (World.block_lt_of_cell? _ _ ((HBp.out.cell hlt1).trans HC1.out))).trans ((HBp.out.cell hlt1).trans HC1.out)⟩ (fun hHeld => ?_)
              clear hK K
              refine norm_ (a' := ?_) ?_ ?_
              rotate_left
              · show Act.put _ (some 60) _ = _
                simp only [Act.put, List.setIfInBounds_toArray, List.set_cons_zero, List.set_cons_succ, i64_w, i32_w]
                rfl
              refine one_ (i := 12) (N := some 61) #[true, true, true, true, true, true, true, true, true, true, true, true, true, false] rfl rfl (by kernel_rfl) (by decide) (fun K hK => ?_)
              refine Kd.R_append_step Kd.string (w0 := wj) wj.heap.size (by rfl) (.tmp 49) (.tmp 60) 26 9 (.string ⟨#[]⟩) 16 rfl Try.underlying26 info9 rfl (by decide) (by omega) u11 ((above Rw).take m) (PairB p0 p1) [.string (PairB p0 p1)] (fun _ => True) (fun _ => False) rfl rfl ?aP (fun _ hk => hk.elim) ?aF ?aO ?aB ?aS ?aL ?_
              (case aP => exact rfl)
              (case aF => exact fun _ _ => trivial)
              (case aO => exact HOp.out)
              (case aB => exact HBp.out)
              (case aS => exact HBp.out.size)
              (case aL => have := HRL.out; have := HR8.out; have := HMY.out; simp only [List.length_take]; omega)
              intro v9 w9 ho9 hb9 hg9 hat9
              have HO9 := Lib.hid ho9
              have HB9 := Lib.hid hb9
              clear ho9 hb9 hg9 hat9
              refine hK.out _ _ ⟨(HB9.out.cell hlt0).trans HC0.out, (HB9.out.cell hlt1).trans HC1.out⟩ (fun hHeld => ?_)
              clear hK K
              refine norm_ (a' := ?_) ?_ ?_
              rotate_left
              · show Act.put _ (some 61) _ = _
                simp only [Act.put, List.setIfInBounds_toArray, List.set_cons_zero, List.set_cons_succ, i64_w, i32_w]
                rfl
              refine pure_ (i := 13) (N := some 11) (v := ?_) (a' := ?_) #[true, true, true, true, true, true, true, true, true, true, true, true, true, true] rfl rfl (by kernel_rfl) (fun _ _ _ h => h) (Or.inl ⟨by rfl, ?_⟩) ?_ ?_
              rotate_left
              · intro w'
                go_simp
                with_reducible rfl
              rotate_left
              · simp only [Act.put, List.setIfInBounds_toArray, List.set_cons_zero, List.set_cons_succ, i64_w, i32_w]
                rfl
              refine done_ (by kernel_rfl) ?_
              go_wp2
              go_roundw
              case rel =>
                refine ⟨m + 1, z2, HZ2.out, rfl, by have := HMY.out; omega, ?_, HB9.out⟩
                rw [List.take_add_one, HAB.out]
                exact HO9.out
              case measure =>
                clear e1 e2 e1' e2' i0 i1 i2 i3 hxx
                have h1 := HZ2.out
                have h2 := HK0.out
                have h3 := HMY.out
                simp only [intOf]
                omega
            · have hRl := HRL.out
              have hR8 := HR8.out
              obtain ⟨NX, hNX⟩ : ∃ NX, NX = above Rw := ⟨_, rfl⟩
              have hta : (above Rw).take m = NX := by rw [hNX, List.take_of_length_le]; rw [above_len]; omega
              have hO2 := HO.out
              rw [hta] at hO2
              obtain ⟨A11, c11, rfl, hl11, hC11⟩ := Kd.R_reads hO2
              have hNL : NX.length = y := by rw [hNX, above_len]; omega
              have HNX := Lib.hid (show NX = lev W (j + 1) by rw [hNX, HRW.out]; rfl)
              have HC11 := Lib.hid hC11
              have HX0 := Lib.hid (HBj.out.trans (HB.out.mono HBj.out.size))
              obtain ⟨z1, hz1⟩ : ∃ z : Int, z = ((2 * m + 1 : Nat) : Int) := ⟨_, rfl⟩
              have e1 : IntKind.i64.wrap (k0 + 1) = z1 := (wrap_small _ (by omega) (by omega)).trans (by omega)
              have e1' : wrap64 (k0 + 1) = z1 := (w64 (by omega) (by omega)).trans (by omega)
              have hxx : decide (z1 < (Rw.length : Int)) = false := decide_eq_false (by omega)
              clear hO2 hta hNX hC11
              by_cases hlast : j + 1 = h
              · have hy1 : y = 1 := by
                  have h1 := HY.out.1
                  rw [show h - j = 1 by omega] at h1
                  omega
                have hq1 : ((NX.length : Int) == 1) = true := beq_iff_eq.mpr (by omega)
                have hq2 : (NX.length == 1) = true := beq_iff_eq.mpr (by omega)
                have hq3 : decide (NX.length = 1) = true := decide_eq_true (by omega)
                have hwl : W.length = T := HWL.out
                have hT8 := HM8.out
                have hT1 : T = 2 ^ h := HT.out
                have hTpos : 1 ≤ T := by rw [hT1]; exact Nat.pow_pos (by omega)
                have hof1 : hof W.length = h := by rw [hwl]; exact H4.out
                obtain ⟨M1, hM1⟩ : ∃ z : Int, z = ((T - 1 : Nat) : Int) := ⟨_, rfl⟩
                have e3 : IntKind.i64.wrap (M - 1) = M1 := (wrap_small _ (by rw [HM.out]; omega) (by rw [HM.out]; omega)).trans (by rw [HM.out, hM1]; omega)
                have e3' : wrap64 (M - 1) = M1 := (w64 (by rw [HM.out]; omega) (by rw [HM.out]; omega)).trans (by rw [HM.out, hM1]; omega)
                obtain ⟨s0, hs0⟩ := get_some (l := Rw) (i := 0) (by omega)
                obtain ⟨s1, hs1⟩ := get_some (l := Rw) (i := 1) (by omega)
                have hP0 : (ProofF W 0)[j]? = some s1 := by
                  have h1 := ProofF_in W 0 (by omega)
                  have h2 := ProofL_take W 0 (n := j) (by omega)
                  rw [hof1, HFL.out, ← HRW.out, Nat.zero_div, show nb 0 = 1 from rfl, List.getD_eq_getElem?_getD, hs1] at h2
                  rw [show ((0 : Nat) : Int) = 0 from rfl] at h1
                  rw [h1, hof1]
                  exact h2
                have hP1 : (ProofF W M1)[j]? = some s0 := by
                  have h1 := ProofF_in W (T - 1) (by omega)
                  have h2 := ProofL_take W (T - 1) (n := j) (by omega)
                  have h3 : (T - 1) / 2 ^ j = 1 := by
                    have hp : 0 < 2 ^ j := Nat.pow_pos (by omega)
                    have h4 : T = 2 * 2 ^ j := by rw [hT1, ← hlast, Nat.pow_succ]; omega
                    rw [Nat.div_eq_iff hp]
                    omega
                  rw [hof1, HFL.out, ← HRW.out, h3, show nb 1 = 0 from rfl, List.getD_eq_getElem?_getD, hs0] at h2
                  rw [hM1, h1, hof1]
                  exact h2
                have hl0 : (ProofF W 0).length = h := by
                  have h1 := ProofF_in W 0 (by omega)
                  rw [show ((0 : Nat) : Int) = 0 from rfl] at h1
                  rw [h1, ProofL_len, hof1]
                have hl1 : (ProofF W M1).length = h := by rw [hM1, ProofF_in W (T - 1) (by omega), ProofL_len, hof1]
                have HP0 := Lib.hid (proof_some W (by omega) HWS.out 0)
                have HP1 := Lib.hid (proof_some W (by omega) HWS.out M1)
                generalize ProofF W 0 = P0 at *
                generalize ProofF W M1 = P1 at *
                have HG0 := Lib.hid hP0
                have HG1 := Lib.hid hP1
                have HL0 := Lib.hid hl0
                have HL1 := Lib.hid hl1
                have HS0 := Lib.hid hs0
                have HS1 := Lib.hid hs1
                have HNL := Lib.hid hNL
                have HMM := Lib.hid hM1
                clear hP0 hP1 hl0 hl1 hs0 hs1 hof1 hT1 hTpos hwl hT8 hz1 hk0 hRl hR8 hM1 hNL
                go_wp2_with (go_at_call 19; (first
                  | (with_reducible refine (digest_Proof.calls _ _ W 0 P0 _ (Kd.C_below HC6.out HX0.out) hl6 HP0.out).mono ?_; rintro e wa ⟨va, rfl, hOa, hba⟩; obtain ⟨Aa, ca, rfl, hla, hCa⟩ := Kd.R_reads hOa; have HCa := Lib.hid hCa; have HBa := Lib.hid hba; have HX1 := Lib.hid (HX0.out.trans (hba.mono HX0.out.size)); clear hOa hba hCa)
                  | (with_reducible refine (digest_Proof.calls _ _ W M1 P1 _ (Kd.C_below HC6.out HX1.out) hl6 HP1.out).mono ?_; rintro e wb ⟨vb, rfl, hOb, hbb⟩; obtain ⟨Ab, cb, rfl, hlb, hCb⟩ := Kd.R_reads hOb; have HCb := Lib.hid hCb; have HBb := Lib.hid hbb; have HX2 := Lib.hid (HX1.out.trans (hbb.mono HX1.out.size)); clear hOb hbb hCb)))
                clear e1 e1' e3 e3' hxx hq1 hq2 hq3
                have HLAST := Lib.hid hlast
                have hRl := HRL.out
                have hPl0 := HL0.out
                have hPl1 := HL1.out
                obtain ⟨aa, eAa, _⟩ := HCa.out.2.2 (by omega)
                obtain ⟨ab, eAb, _⟩ := HCb.out.2.2 (by omega)
                subst eAa
                subst eAb
                obtain ⟨zh, hzh⟩ : ∃ z : Int, z = ((j + 1 : Nat) : Int) := ⟨_, rfl⟩
                have q1 : wb.cell? (aa.add j) = some (.string s1) := by
                  have := Kd.foot_string (Kd.C_below HCa.out HBb.out) (j : Int) (by omega) (by omega)
                  rw [rd_some HG0.out] at this
                  simpa using this
                have q2 : wb.cell? (ab.add j) = some (.string s0) := by
                  have := Kd.foot_string HCb.out (j : Int) (by omega) (by omega)
                  rw [rd_some HG1.out] at this
                  simpa using this
                have hCR := Kd.C_below HC.out ((HB.out.trans (HBa.out.mono HB.out.size)).trans (HBb.out.mono (HB.out.trans (HBa.out.mono HB.out.size)).size))
                have q3 : wb.cell? (ad.add 1) = some (.string s1) := by
                  have := Kd.foot_string hCR ((1 : Nat) : Int) (by omega) (by omega)
                  rw [rd_some HS1.out] at this
                  exact this
                have q4 : wb.cell? (ad.add 0) = some (.string s0) := by
                  have := Kd.foot_string hCR ((0 : Nat) : Int) (by omega) (by omega)
                  rw [rd_some HS0.out] at this
                  exact this
                have q4' : wb.cell? ad = some (.string s0) := by
                  have h1 := q4
                  rwa [show ad.add 0 = ad by cases ad; simp [Addr.add]] at h1
                have q3' := q3
                simp [Addr.add] at q3'
                have t1 : (P0.length : Int) = zh := by omega
                have t2 : (P1.length : Int) = zh := by omega
                have t3 : (0 ≤ (j : Int)) = True := eq_true (by omega)
                have t4 : ((j : Int) < zh) = True := eq_true (by omega)
                have t5 : ((1 : Int) < (Rw.length : Int)) = True := eq_true (by omega)
                have t6 : ((0 : Int) < (Rw.length : Int)) = True := eq_true (by omega)
                have t7 : (1 < Rw.length) = True := eq_true (by omega)
                have t8 : (0 < Rw.length) = True := eq_true (by omega)
                have ew : IntKind.i64.wrap ((j : Int) + 1) = zh := (wrap_succ j (by omega)).1.trans hzh.symm
                have ew' : wrap64 ((j : Int) + 1) = zh := (wrap_succ j (by omega)).2.trans hzh.symm
                have HCF := Lib.hid (Kd.C_below HC11.out (HBa.out.trans (HBb.out.mono HBa.out.size)))
                have HZH := Lib.hid hzh
                clear hRl hPl0 hPl1 hzh hCR
                go_quiet (fail)
                go_wp2
                go_roundw
                case rel => refine ⟨j + 1, A11, c11, by rw [← HNX.out], by rw [← HNX.out]; exact hl11, by rw [← HNX.out]; exact HCF.out, by rw [HZH.out], by have := HLAST.out; omega, below_drewNx HX2.out⟩
                case measure =>
                  clear ew ew'
                  have h1 := HLAST.out
                  have h2 := HZH.out
                  simp only [intOf]
                  omega
              · have hy2 : 2 ≤ y := by
                  have h1 := HY.out.1
                  obtain ⟨d, hd⟩ : ∃ d, h - j = d + 1 + 1 := ⟨h - j - 2, by omega⟩
                  rw [hd, Nat.pow_succ, Nat.pow_succ] at h1
                  have h3 : 1 ≤ 2 ^ d := Nat.pow_pos (by omega)
                  omega
                have hq1 : ((NX.length : Int) == 1) = false := beq_eq_false_iff_ne.mpr (by omega)
                have hq2 : (NX.length == 1) = false := beq_eq_false_iff_ne.mpr (by omega)
                have hq3 : decide (NX.length = 1) = false := decide_eq_false (by omega)
                clear hNL
                go_wp2
                go_roundw
                case rel => refine ⟨j + 1, A11, c11, by rw [← HNX.out], by rw [← HNX.out]; exact hl11, by rw [← HNX.out]; exact HC11.out, by go_num, by omega, HX0.out⟩
                case measure => first | omega | (simp [intOf]; omega)
        · have hjj : j = h := by omega
          have hR1 : Rw.length = 1 := by rw [HLEN.out, hjj, Nat.sub_self]
          have hx : decide (1 < Rw.length) = false := decide_eq_false (by omega)
          have hx' : decide ((1 : Int) < (Rw.length : Int)) = false := decide_eq_false (by omega)
          obtain ⟨ad, eA, _⟩ := HC.out.2.2 (by omega)
          subst eA
          obtain ⟨tp, htp⟩ := get_some (l := Rw) (i := 0) (by omega)
          have htps : tp.size ≤ 9000 := lev_mem W HWS.out j tp (by rw [← HRW.out]; exact List.mem_of_getElem? htp)
          have q4 : wj.cell? (ad.add 0) = some (.string tp) := by
            have := Kd.foot_string HC.out ((0 : Nat) : Int) (by omega) (by omega)
            rw [rd_some htp] at this
            exact this
          have q4' : wj.cell? ad = some (.string tp) := by
            have h1 := q4
            rwa [show ad.add 0 = ad by cases ad; simp [Addr.add]] at h1
          have t6 : ((0 : Int) < (Rw.length : Int)) = True := eq_true (by omega)
          have t8 : (0 < Rw.length) = True := eq_true (by omega)
          have hwl : W.length = T := HWL.out
          have hT8 := HM8.out
          have HRT := Lib.hid (root_some W (by omega) HWS.out)
          have hroot : RootF W = RootB (j : Int) tp := by
            unfold RootF
            rw [hwl, H4.out, ← HT.out]
            have := HT.out
            rw [this, HFL.out, ← hjj, ← HRW.out, List.getD_eq_getElem?_getD, htp]
            rfl
          have HROOT := Lib.hid hroot
          have HTP := Lib.hid htps
          clear hR1 htp htps hwl hT8 hroot hjj
          obtain ⟨x, hx8⟩ : ∃ x : Int, IntKind.u8.wrap (j : Int) = x := ⟨_, rfl⟩
          have hxm : x = (j : Int) % 256 := by rw [← hx8, IntKind.wrap_u8]
          have hsx : (strOfNums [x]).size = 1 := strOfNums_one x
          have hOF := of_some ((⟨#[2]⟩ ++ strOfNums [x]) ++ tp) (by simp only [ByteArray.size_append, hsx]; have := HTP.out; have h2 : (⟨#[2]⟩ : ByteArray).size = 1 := rfl; omega)
          have HOF := Lib.hid (show digest_Of.f ((⟨#[2]⟩ ++ strOfNums [x]) ++ tp) = some (RootB (j : Int) tp) by rw [hOF]; unfold RootB; rw [hxm])
          have htp9 := HTP.out
          have f1 : (1 + (strOfNums [x]).size ≤ 9223372036854775807) = True := eq_true (by omega)
          have f2 : decide (1 + (strOfNums [x]).size ≤ 9223372036854775807) = true := decide_eq_true (by omega)
          have f3 : (9223372036854775807 < 1 + (strOfNums [x]).size) = False := eq_false (by omega)
          have hz2 : ((⟨#[2]⟩ : ByteArray) ++ strOfNums [x]).size = 2 := by rw [ByteArray.size_append, hsx]; rfl
          have f4 : (((⟨#[2]⟩ : ByteArray) ++ strOfNums [x]).size + tp.size ≤ 9223372036854775807) = True := eq_true (by omega)
          have f5 : decide (((⟨#[2]⟩ : ByteArray) ++ strOfNums [x]).size + tp.size ≤ 9223372036854775807) = true := decide_eq_true (by omega)
          have f6 : (9223372036854775807 < ((⟨#[2]⟩ : ByteArray) ++ strOfNums [x]).size + tp.size) = False := eq_false (by omega)
          have f7 : (1 + (strOfNums [x]).size + tp.size ≤ 9223372036854775807) = True := eq_true (by omega)
          have f8 : (9223372036854775807 < 1 + (strOfNums [x]).size + tp.size) = False := eq_false (by omega)
          have HCd := Lib.hid (show Kd.string.C wj.drew A6 W.length W from Kd.C_below HC6.out (below_drew1 HBj.out))
          have c0d : wj.drew.cell? (ad.add 0) = some (.string tp) := q4
          have c0d2 : wj.drew.cell? ad = some (.string tp) := q4'
          have HW0 := Lib.hid (below_drew1 HBj.out)
          have hltd := World.block_lt_of_cell? _ _ c0d
          have hltd2 := World.block_lt_of_cell? _ _ c0d2
          clear hsx hxm hOF htp9 hz2
          go_wp2
          refine start_ (n := 17) (S := fun w' => w'.cell? (ad.add 0) = some (.string tp) ∧ w'.cell? ad = some (.string tp)) (ds := []) #[false, false, false, false, false, false, false, false, false, false, false, false, false, false, false, false, false] (by kernel_rfl) rfl rfl ⟨c0d, c0d2⟩ (fun hHeld => ?_)
          generalize wj.drew = wd at HCd HW0 c0d c0d2 hltd hltd2 hHeld ⊢; have HX := Lib.hid (Below.refl wd.heap.size wd)
          refine pure_ (i := 0) (N := some 106) (v := ?_) (a' := ?_) #[true, false, false, false, false, false, false, false, false, false, false, false, false, false, false, false, false] rfl rfl (by kernel_rfl) (fun _ _ _ h => h) (Or.inl ⟨by rfl, ?_⟩) ?_ ?_
          rotate_left
          · intro w'
            go_simp
            with_reducible rfl
          rotate_left
          · simp only [Act.put, List.setIfInBounds_toArray, List.set_cons_zero, List.set_cons_succ, i64_w, i32_w]
            rfl
          refine pure_ (i := 1) (N := some 107) (v := ?_) (a' := ?_) #[true, true, false, false, false, false, false, false, false, false, false, false, false, false, false, false, false] rfl rfl (by kernel_rfl) (fun _ _ _ h => h) (Or.inl ⟨by rfl, ?_⟩) ?_ ?_
          rotate_left
          · intro w'
            go_simp
            with_reducible rfl
          rotate_left
          · simp only [Act.put, List.setIfInBounds_toArray, List.set_cons_zero, List.set_cons_succ, i64_w, i32_w]
            rfl
          refine pure_ (i := 2) (N := some 108) (v := ?_) (a' := ?_) #[true, true, true, false, false, false, false, false, false, false, false, false, false, false, false, false, false] rfl rfl (by kernel_rfl) (fun _ _ _ h => h) (Or.inl ⟨by rfl, ?_⟩) ?_ ?_
          rotate_left
          · intro w'
            go_simp
            with_reducible rfl
          rotate_left
          · simp only [Act.put, List.setIfInBounds_toArray, List.set_cons_zero, List.set_cons_succ, i64_w, i32_w]
            rfl
          refine pure_ (i := 4) (N := some 110) (v := ?_) (a' := ?_) #[true, true, true, false, true, false, false, false, false, false, false, false, false, false, false, false, false] rfl rfl (by kernel_rfl) (fun _ _ _ h => h) (Or.inl ⟨by rfl, ?_⟩) ?_ ?_
          rotate_left
          · intro w'
            go_simp
            with_reducible rfl
          rotate_left
          · simp only [Act.put, List.setIfInBounds_toArray, List.set_cons_zero, List.set_cons_succ, i64_w, i32_w]
            rfl
          refine pure_ (i := 5) (N := some 111) (v := ?_) (a' := ?_) #[true, true, true, false, true, true, false, false, false, false, false, false, false, false, false, false, false] rfl rfl (by kernel_rfl) (fun _ _ _ h => h) (Or.inl ⟨by rfl, ?_⟩) ?_ ?_
          rotate_left
          · intro w'
            go_simp
            with_reducible rfl
          rotate_left
          · simp only [Act.put, List.setIfInBounds_toArray, List.set_cons_zero, List.set_cons_succ, i64_w, i32_w]
            rfl
          refine pure_ (i := 9) (N := some 115) (v := ?_) (a' := ?_) #[true, true, true, false, true, true, false, false, false, true, false, false, false, false, false, false, false] rfl rfl (by kernel_rfl) (fun _ _ _ h => h) (Or.inl ⟨by rfl, ?_⟩) ?_ ?_
          rotate_left
          · intro w'
            go_simp
            with_reducible rfl
          rotate_left
          · simp only [Act.put, List.setIfInBounds_toArray, List.set_cons_zero, List.set_cons_succ, i64_w, i32_w]
            rfl
          refine pure_ (i := 10) (N := some 116) (v := ?_) (a' := ?_) #[true, true, true, false, true, true, false, false, false, true, true, false, false, false, false, false, false] rfl rfl (by kernel_rfl) (fun _ _ _ h => h) (Or.inl ⟨by rfl, ?_⟩) ?_ ?_
          rotate_left
          · intro w'
            go_simp
            with_reducible rfl
          rotate_left
          · simp only [Act.put, List.setIfInBounds_toArray, List.set_cons_zero, List.set_cons_succ, i64_w, i32_w]
            rfl
          refine take_ (i := 11) (N := some 117) (v := ?_) (a' := ?_) #[true, true, true, false, true, true, false, false, false, true, true, true, false, false, false, false, false] rfl rfl (by kernel_rfl) (fun _ _ _ h => h) (Or.inl ⟨by rfl, ?_⟩) hHeld ?_ ?_
          rotate_left
          · rintro w' ⟨s0, s1⟩
            go_simp
            with_reducible rfl
          rotate_left
          · simp only [Act.put, List.setIfInBounds_toArray, List.set_cons_zero, List.set_cons_succ, i64_w, i32_w]
            rfl
          refine join_ (σ := Value) 4 #[true, true, true, true, true, true, true, true, true, true, true, true, true, false, false, false, false] (fun s => [(109, .string (RootF W)), (112, s), (113, .string (strOfNums [x])), (114, .string (⟨#[2]⟩ ++ strOfNums [x])), (118, .string ((⟨#[2]⟩ ++ strOfNums [x]) ++ tp))]) (fun s w' => Below wd.heap.size wd w') ?_ ?_
          rotate_left
          · intro hCont
            refine two_ (i := 3) (j := 6) (Ni := some 109) (Nj := some 112) #[true, true, true, true, true, true, false, false, false, true, true, true, false, false, false, false, false] #[true, true, true, false, true, true, true, false, false, true, true, true, false, false, false, false, false] rfl rfl rfl rfl (by kernel_rfl) (by decide) (by decide) (fun K hK => ?_) (fun K hK => ?_)
            · skip
              refine goes_ Try.func21 (by kernel_rfl) rfl #[.slice A6 W.length c6] (by rfl) rfl rfl (by simp only [List.map_toArray, List.map_cons, List.map_nil]; rfl) ?_
              with_reducible refine (digest_Root.calls A6 c6 W (RootF W) _ (Kd.C_below HCd.out HX.out) hl6 HRT.out).mono ?_
              rintro e wx ⟨rfl, hbx⟩
              refine ⟨_, rfl, ?_⟩
              have n_ := Lib.hid (HX.out.trans (hbx.mono HX.out.size)); clear HX; have HX := n_; clear n_
              refine hK.out _ _ ⟨(HX.out.cell hltd).trans c0d, (HX.out.cell hltd2).trans c0d2⟩ (fun hHeld => ?_)
              clear hK K
              refine norm_ (a' := ?_) ?_ ?_
              rotate_left
              · show Act.put _ (some 109) _ = _
                simp only [Act.put, List.setIfInBounds_toArray, List.set_cons_zero, List.set_cons_succ, i64_w, i32_w]
                rfl
              refine one_ (i := 6) (N := some 112) #[true, true, true, true, true, true, true, false, false, true, true, true, false, false, false, false, false] rfl rfl (by kernel_rfl) (by decide) (fun K hK => ?_)
              refine Kd.R_lit_step (Kd.int .u8) _ 5 ?hg (N := 112) ?hd (xs := ([x] : List Int)) (inner := [.int .u8 x]) (ok := fun _ => True) (okp := fun _ => True) ?hr ?hp (fun _ hk => hk) trivial (Below.refl _ _) (Nat.le_refl _) (by simp) ?_; (case hd => rfl); (case hg => rfl); (case hr => first | (go_simp; done) | (go_simp; rfl)); (case hp => exact (Reps.one (show Kd.M (Kd.int .u8) _ _ _ x [.int .u8 x] from rfl) (Reps.none _ _)))
              intro v5 w5 ho hb hg_ hnew_
              clear hg_ hnew_
              have HO := Lib.hid ho
              have n_ := Lib.hid (HX.out.trans (hb.mono HX.out.size)); clear HX; have HX := n_; clear n_
              clear ho hb
              refine hK.out _ _ ⟨(HX.out.cell hltd).trans c0d, (HX.out.cell hltd2).trans c0d2⟩ (fun hHeld => ?_)
              clear hK K
              refine norm_ (a' := ?_) ?_ ?_
              rotate_left
              · show Act.put _ (some 112) _ = _
                simp only [Act.put, List.setIfInBounds_toArray, List.set_cons_zero, List.set_cons_succ, i64_w, i32_w]
                rfl
              refine one_ (i := 7) (N := some 113) #[true, true, true, true, true, true, true, true, false, true, true, true, false, false, false, false, false] rfl rfl (by kernel_rfl) (by decide) (fun K hK => ?_)
              have hcv := own_string (P := Try.prog) Try.underlying40 Try.underlying5 Try.underlying9 (Kd.own_of_R HO.out)
              refine value_ (w1 := ?_) (v := ?_) (by rfl) rfl ?_ ?_
              rotate_left 2
              · go_simp
                constructor
                · rfl
                · rfl
              refine hK.out _ _ ⟨(HX.out.cell hltd).trans c0d, (HX.out.cell hltd2).trans c0d2⟩ (fun hHeld => ?_)
              clear hK K
              refine norm_ (a' := ?_) ?_ ?_
              rotate_left
              · show Act.put _ (some 113) _ = _
                simp only [Act.put, List.setIfInBounds_toArray, List.set_cons_zero, List.set_cons_succ, i64_w, i32_w]
                rfl
              refine pure_ (i := 8) (N := some 114) (v := ?_) (a' := ?_) #[true, true, true, true, true, true, true, true, true, true, true, true, false, false, false, false, false] rfl rfl (by kernel_rfl) (fun _ _ _ h => h) (Or.inl ⟨by rfl, ?_⟩) ?_ ?_
              rotate_left
              · intro w'
                go_simp
                with_reducible rfl
              rotate_left
              · simp only [Act.put, List.setIfInBounds_toArray, List.set_cons_zero, List.set_cons_succ, i64_w, i32_w]
                rfl
              refine pure_ (i := 12) (N := some 118) (v := ?_) (a' := ?_) #[true, true, true, true, true, true, true, true, true, true, true, true, true, false, false, false, false] rfl rfl (by kernel_rfl) (fun _ _ _ h => h) (Or.inl ⟨by rfl, ?_⟩) ?_ ?_
              rotate_left
              · intro w'
                go_simp
                with_reducible rfl
              rotate_left
              · simp only [Act.put, List.setIfInBounds_toArray, List.set_cons_zero, List.set_cons_succ, i64_w, i32_w]
                rfl
              exact norm_ (by simp only [putAll, Act.put, List.setIfInBounds_toArray, List.set_cons_zero, List.set_cons_succ]) (hCont v5 _ HX.out)
            · skip
              refine Kd.R_lit_step (Kd.int .u8) _ 5 ?hg (N := 112) ?hd (xs := ([x] : List Int)) (inner := [.int .u8 x]) (ok := fun _ => True) (okp := fun _ => True) ?hr ?hp (fun _ hk => hk) trivial (Below.refl _ _) (Nat.le_refl _) (by simp) ?_; (case hd => rfl); (case hg => rfl); (case hr => first | (go_simp; done) | (go_simp; rfl)); (case hp => exact (Reps.one (show Kd.M (Kd.int .u8) _ _ _ x [.int .u8 x] from rfl) (Reps.none _ _)))
              intro v5 w5 ho hb hg_ hnew_
              clear hg_ hnew_
              have HO := Lib.hid ho
              have n_ := Lib.hid (HX.out.trans (hb.mono HX.out.size)); clear HX; have HX := n_; clear n_
              clear ho hb
              refine hK.out _ _ ⟨(HX.out.cell hltd).trans c0d, (HX.out.cell hltd2).trans c0d2⟩ (fun hHeld => ?_)
              clear hK K
              refine norm_ (a' := ?_) ?_ ?_
              rotate_left
              · show Act.put _ (some 112) _ = _
                simp only [Act.put, List.setIfInBounds_toArray, List.set_cons_zero, List.set_cons_succ, i64_w, i32_w]
                rfl
              refine two_ (i := 3) (j := 7) (Ni := some 109) (Nj := some 113) #[true, true, true, true, true, true, true, false, false, true, true, true, false, false, false, false, false] #[true, true, true, false, true, true, true, true, false, true, true, true, false, false, false, false, false] rfl rfl rfl rfl (by kernel_rfl) (by decide) (by decide) (fun K hK => ?_) (fun K hK => ?_)
              · skip
                refine goes_ Try.func21 (by kernel_rfl) rfl #[.slice A6 W.length c6] (by rfl) rfl rfl (by simp only [List.map_toArray, List.map_cons, List.map_nil]; rfl) ?_
                with_reducible refine (digest_Root.calls A6 c6 W (RootF W) _ (Kd.C_below HCd.out HX.out) hl6 HRT.out).mono ?_
                rintro e wx ⟨rfl, hbx⟩
                refine ⟨_, rfl, ?_⟩
                have m_ := Lib.hid (Kd.R_below HO.out hbx)
                clear HO
                have HO := m_
                clear m_
                have n_ := Lib.hid (HX.out.trans (hbx.mono HX.out.size)); clear HX; have HX := n_; clear n_
                refine hK.out _ _ ⟨(HX.out.cell hltd).trans c0d, (HX.out.cell hltd2).trans c0d2⟩ (fun hHeld => ?_)
                clear hK K
                refine norm_ (a' := ?_) ?_ ?_
                rotate_left
                · show Act.put _ (some 109) _ = _
                  simp only [Act.put, List.setIfInBounds_toArray, List.set_cons_zero, List.set_cons_succ, i64_w, i32_w]
                  rfl
                refine one_ (i := 7) (N := some 113) #[true, true, true, true, true, true, true, true, false, true, true, true, false, false, false, false, false] rfl rfl (by kernel_rfl) (by decide) (fun K hK => ?_)
                have hcv := own_string (P := Try.prog) Try.underlying40 Try.underlying5 Try.underlying9 (Kd.own_of_R HO.out)
                refine value_ (w1 := ?_) (v := ?_) (by rfl) rfl ?_ ?_
                rotate_left 2
                · go_simp
                  constructor
                  · rfl
                  · rfl
                refine hK.out _ _ ⟨(HX.out.cell hltd).trans c0d, (HX.out.cell hltd2).trans c0d2⟩ (fun hHeld => ?_)
                clear hK K
                refine norm_ (a' := ?_) ?_ ?_
                rotate_left
                · show Act.put _ (some 113) _ = _
                  simp only [Act.put, List.setIfInBounds_toArray, List.set_cons_zero, List.set_cons_succ, i64_w, i32_w]
                  rfl
                refine pure_ (i := 8) (N := some 114) (v := ?_) (a' := ?_) #[true, true, true, true, true, true, true, true, true, true, true, true, false, false, false, false, false] rfl rfl (by kernel_rfl) (fun _ _ _ h => h) (Or.inl ⟨by rfl, ?_⟩) ?_ ?_
                rotate_left
                · intro w'
                  go_simp
                  with_reducible rfl
                rotate_left
                · simp only [Act.put, List.setIfInBounds_toArray, List.set_cons_zero, List.set_cons_succ, i64_w, i32_w]
                  rfl
                refine pure_ (i := 12) (N := some 118) (v := ?_) (a' := ?_) #[true, true, true, true, true, true, true, true, true, true, true, true, true, false, false, false, false] rfl rfl (by kernel_rfl) (fun _ _ _ h => h) (Or.inl ⟨by rfl, ?_⟩) ?_ ?_
                rotate_left
                · intro w'
                  go_simp
                  with_reducible rfl
                rotate_left
                · simp only [Act.put, List.setIfInBounds_toArray, List.set_cons_zero, List.set_cons_succ, i64_w, i32_w]
                  rfl
                exact norm_ (by simp only [putAll, Act.put, List.setIfInBounds_toArray, List.set_cons_zero, List.set_cons_succ]) (hCont v5 _ HX.out)
              · skip
                have hcv := own_string (P := Try.prog) Try.underlying40 Try.underlying5 Try.underlying9 (Kd.own_of_R HO.out)
                refine value_ (w1 := ?_) (v := ?_) (by rfl) rfl ?_ ?_
                rotate_left 2
                · go_simp
                  constructor
                  · rfl
                  · rfl
                refine hK.out _ _ ⟨(HX.out.cell hltd).trans c0d, (HX.out.cell hltd2).trans c0d2⟩ (fun hHeld => ?_)
                clear hK K
                refine norm_ (a' := ?_) ?_ ?_
                rotate_left
                · show Act.put _ (some 113) _ = _
                  simp only [Act.put, List.setIfInBounds_toArray, List.set_cons_zero, List.set_cons_succ, i64_w, i32_w]
                  rfl
                refine pure_ (i := 8) (N := some 114) (v := ?_) (a' := ?_) #[true, true, true, false, true, true, true, true, true, true, true, true, false, false, false, false, false] rfl rfl (by kernel_rfl) (fun _ _ _ h => h) (Or.inl ⟨by rfl, ?_⟩) ?_ ?_
                rotate_left
                · intro w'
                  go_simp
                  with_reducible rfl
                rotate_left
                · simp only [Act.put, List.setIfInBounds_toArray, List.set_cons_zero, List.set_cons_succ, i64_w, i32_w]
                  rfl
                refine pure_ (i := 12) (N := some 118) (v := ?_) (a' := ?_) #[true, true, true, false, true, true, true, true, true, true, true, true, true, false, false, false, false] rfl rfl (by kernel_rfl) (fun _ _ _ h => h) (Or.inl ⟨by rfl, ?_⟩) ?_ ?_
                rotate_left
                · intro w'
                  go_simp
                  with_reducible rfl
                rotate_left
                · simp only [Act.put, List.setIfInBounds_toArray, List.set_cons_zero, List.set_cons_succ, i64_w, i32_w]
                  rfl
                refine one_ (i := 3) (N := some 109) #[true, true, true, true, true, true, true, true, true, true, true, true, true, false, false, false, false] rfl rfl (by kernel_rfl) (by decide) (fun K hK => ?_)
                refine goes_ Try.func21 (by kernel_rfl) rfl #[.slice A6 W.length c6] (by rfl) rfl rfl (by simp only [List.map_toArray, List.map_cons, List.map_nil]; rfl) ?_
                with_reducible refine (digest_Root.calls A6 c6 W (RootF W) _ (Kd.C_below HCd.out HX.out) hl6 HRT.out).mono ?_
                rintro e wx ⟨rfl, hbx⟩
                refine ⟨_, rfl, ?_⟩
                have m_ := Lib.hid (Kd.R_below HO.out hbx)
                clear HO
                have HO := m_
                clear m_
                have n_ := Lib.hid (HX.out.trans (hbx.mono HX.out.size)); clear HX; have HX := n_; clear n_
                refine hK.out _ _ ⟨(HX.out.cell hltd).trans c0d, (HX.out.cell hltd2).trans c0d2⟩ (fun hHeld => ?_)
                clear hK K
                refine norm_ (a' := ?_) ?_ ?_
                rotate_left
                · show Act.put _ (some 109) _ = _
                  simp only [Act.put, List.setIfInBounds_toArray, List.set_cons_zero, List.set_cons_succ, i64_w, i32_w]
                  rfl
                exact norm_ (by simp only [putAll, Act.put, List.setIfInBounds_toArray, List.set_cons_zero, List.set_cons_succ]) (hCont v5 _ HX.out)
          rintro s w' hF
          have HX := Lib.hid hF
          have hHeld : w'.cell? (ad.add 0) = some (.string tp) ∧ w'.cell? ad = some (.string tp) := ⟨(HX.out.cell hltd).trans c0d, (HX.out.cell hltd2).trans c0d2⟩
          refine norm_ (a' := ?_) ?_ ?_
          rotate_left
          · simp only [putAll, Act.put, List.setIfInBounds_toArray, List.set_cons_zero, List.set_cons_succ]
            rfl
          refine one_ (i := 13) (N := some 119) #[true, true, true, true, true, true, true, true, true, true, true, true, true, true, false, false, false] rfl rfl (by kernel_rfl) (by decide) (fun K hK => ?_)
          refine goes_ Try.func13 (by kernel_rfl) rfl #[.string ((⟨#[2]⟩ ++ strOfNums [x]) ++ tp)] (by rfl) rfl rfl (by simp only [List.map_toArray, List.map_cons, List.map_nil]; rfl) ?_
          with_reducible refine (digest_Of.calls ((⟨#[2]⟩ ++ strOfNums [x]) ++ tp) (RootB (j : Int) tp) _ HOF.out).mono ?_
          rintro e wy ⟨rfl, hby⟩
          refine ⟨_, rfl, ?_⟩
          have n_ := Lib.hid (HX.out.trans (hby.mono HX.out.size)); clear HX; have HX := n_; clear n_
          refine hK.out _ _ ⟨(HX.out.cell hltd).trans c0d, (HX.out.cell hltd2).trans c0d2⟩ (fun hHeld => ?_)
          clear hK K
          refine norm_ (a' := ?_) ?_ ?_
          rotate_left
          · show Act.put _ (some 119) _ = _
            simp only [Act.put, List.setIfInBounds_toArray, List.set_cons_zero, List.set_cons_succ, i64_w, i32_w]
            rfl
          refine pure_ (i := 14) (N := some 120) (v := ?_) (a' := ?_) #[true, true, true, true, true, true, true, true, true, true, true, true, true, true, true, false, false] rfl rfl (by kernel_rfl) (fun _ _ _ h => h) (Or.inl ⟨by rfl, ?_⟩) ?_ ?_
          rotate_left
          · intro w'
            go_simp
            with_reducible rfl
          rotate_left
          · simp only [Act.put, List.setIfInBounds_toArray, List.set_cons_zero, List.set_cons_succ, i64_w, i32_w]
            rfl
          refine pure_ (i := 15) (N := some 121) (v := ?_) (a' := ?_) #[true, true, true, true, true, true, true, true, true, true, true, true, true, true, true, true, false] rfl rfl (by kernel_rfl) (fun _ _ _ h => h) (Or.inl ⟨by rfl, ?_⟩) ?_ ?_
          rotate_left
          · intro w'
            go_simp
            with_reducible rfl
          rotate_left
          · simp only [Act.put, List.setIfInBounds_toArray, List.set_cons_zero, List.set_cons_succ, i64_w, i32_w]
            rfl
          refine pure_ (i := 16) (N := some 4) (v := ?_) (a' := ?_) #[true, true, true, true, true, true, true, true, true, true, true, true, true, true, true, true, true] rfl rfl (by kernel_rfl) (fun _ _ _ h => h) (Or.inl ⟨by rfl, ?_⟩) ?_ ?_
          rotate_left
          · intro w'
            go_simp
            with_reducible rfl
          rotate_left
          · simp only [Act.put, List.setIfInBounds_toArray, List.set_cons_zero, List.set_cons_succ, i64_w, i32_w]
            rfl
          refine done_ (by kernel_rfl) ?_
          have hst : ((RootF W).toList == (RootB (j : Int) tp).toList) = true := by rw [HROOT.out]; exact beq_self_eq_true _
          simp only [hst]
          go_wp2
          go_ret
          exact ⟨rfl, HBw.out.trans ((HB6.out.trans ((HW0.out.trans (HX.out.mono HW0.out.size)).mono HB6.out.size)).mono HBw.out.size)⟩
theorem digestTrees_calls (w : World) (e0 : ByteArray) (h0 : e0.size ≤ 9223372036854775807) (e1 : ByteArray) (h1 : e1.size ≤ 9223372036854775807) (e2 : ByteArray) (h2 : e2.size ≤ 9223372036854775807) (e3 : ByteArray) (h3 : e3.size ≤ 9223372036854775807) (e4 : ByteArray) (h4 : e4.size ≤ 9223372036854775807) (e5 : ByteArray) (h5 : e5.size ≤ 9223372036854775807) (e6 : ByteArray) (h6 : e6.size ≤ 9223372036854775807) (e7 : ByteArray) (h7 : e7.size ≤ 9223372036854775807) (n : Int) (hn : (Lit.int .u8 n).wf = true) :
    Calls Try.prog 10 #[.agg #[.string e0, .string e1, .string e2, .string e3, .string e4, .string e5, .string e6, .string e7], .int .u8 n] w fun e w' => e = .returned (.bool true) ∧ Below w.heap.size w w' :=
  trees_walk e0 e1 e2 e3 e4 e5 e6 e7 n w (by simp [Lit.wf, IntKind.min, IntKind.max, IntKind.signed, IntKind.bits] at hn; omega)
end Go.Proofs.Ytgepeapfninmeaa.Pure
