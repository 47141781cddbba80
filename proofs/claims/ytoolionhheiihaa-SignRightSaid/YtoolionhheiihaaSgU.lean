/- SignRight, SignSigns. -/
import Derived.Test.YtoolionhheiihaaSgY
set_option linter.unusedVariables false
set_option linter.unusedSimpArgs false
namespace Go.Proofs.Ytoolionhheiihaa.Sg
open Go.RowKit Go.Proofs.YtoolionhheiihaaW.PrintWords Go.Proofs.YtoolionhheiihaaW.PrintLast Go.Proofs.YtoolionhheiihaaW.PrintMore Go.Proofs.Ytoolionhheiihaa.Dg Go.Proofs.Ytoolionhheiihaa.Gv Go.Proofs.Ytoolionhheiihaa.Pb Go.Proofs.Ytoolionhheiihaa.Gw Go.Proofs.Ytoolionhheiihaa.Pure
theorem Sign_pair (seed : ByteArray) (hs : seed.size ≤ 9000) (n i : Int) (msg : ByteArray) (hm : msg.size ≤ 9000) : ∃ (v : ByteArray) (er : Int), (∀ w : World, Calls Try.prog 15 #[.string seed, .int .i64 n, .int .i64 i, .string msg] w fun e w' => e = .returned (.tuple #[.string v, .int .i64 er]) ∧ Below w.heap.size w w') ∧
    (∀ w : World, Calls Try.prog 16 #[.string seed, .int .i64 n, .int .i64 i, .string msg] w fun e w' => e = .returned (.tuple #[.string v, .int .i64 er]) ∧ Below w.heap.size w w') := by
  by_cases h : 1 ≤ n ∧ n ≤ 16 ∧ 0 ≤ i ∧ i < n
  · obtain ⟨m, rfl⟩ : ∃ m : Nat, n = m := ⟨n.toNat, by omega⟩
    obtain ⟨j, rfl⟩ : ∃ j : Nat, i = j := ⟨i.toNat, by omega⟩
    obtain ⟨k, hk⟩ := (Sign_ev seed hs m j (by omega) (by omega) (by omega) msg hm).rounds
    exact ⟨_, _, fun w => Sign_yes seed hs m j msg (by omega) w (by omega) (by omega) (by omega), fun w => abugidaref04_Sign.calls k seed m j msg _ _ w hk⟩
  · obtain ⟨k, hk⟩ := (Sign_ev_no seed n i msg (by omega)).rounds
    exact ⟨_, _, fun w => Sign_no seed n i msg w (by omega), fun w => abugidaref04_Sign.calls k seed n i msg _ _ w hk⟩
/-- A signature is accepted. -/
theorem Check_own (seed : ByteArray) (n i : Nat) (msg : ByteArray) (h1 : 1 ≤ n) (hn : n ≤ 16) (hi : i < n) (hm : msg.size ≤ 9000) (w : World) :
    Calls Try.prog 18 #[.string (PubB seed n), .string msg, .string (SigB seed n i msg)] w fun e w' => e = .returned (.bool true) ∧ Below w.heap.size w w' := by
  have := Check_sig (PubB seed n) msg seed msg ⟨#[]⟩ n i h1 hn hi hm (by decide) w
  rwa [append_nil, chk_own seed n i hn hi, decide_eq_true rfl] at this
set_option maxHeartbeats 2000000 in
set_option maxRecDepth 100000 in
theorem signRight_calls (w : World) (a0 : ByteArray) (z0 : a0.size ≤ 9223372036854775807) (a1 : ByteArray) (z1 : a1.size ≤ 9223372036854775807) (q0 : Int) (wq0 : (Lit.int .u8 q0).wf = true) (q1 : Int) (wq1 : (Lit.int .u8 q1).wf = true) :
    Calls Try.prog 5 #[.string a0, .string a1, .agg #[.int .u8 q0, .int .u8 q1]] w fun e w' => e = .returned (.bool true) ∧ Below w.heap.size w w' := by
  obtain ⟨n, i, h1, h5, hi, hsome⟩ := some_calls q0 q1 (u8_of wq0) (u8_of wq1) w
  obtain ⟨s, hs⟩ : ∃ s, s = c200 a0 := ⟨_, rfl⟩
  obtain ⟨m, hm⟩ : ∃ m, m = c200 a1 := ⟨_, rfl⟩
  have hsz := c200_size a0
  have hmz := c200_size a1
  have HSH := Lib.hid (fun W => short_calls a0 W)
  have HMH := Lib.hid (fun W => short_calls a1 W)
  rw [← hs] at hsz HSH
  rw [← hm] at hmz HMH
  have HSO := Lib.hid hsome
  obtain ⟨Wb, hWb⟩ : ∃ W, W = w.alloc (.cells #[.int .u8 q0, .int .u8 q1] 34) := ⟨_, rfl⟩
  have hbb : Below w.heap.size w Wb := by rw [hWb]; exact below_alloc (Below.refl _ _) _
  have hbl : Wb.heap[w.heap.size]? = some (.cells #[.int .u8 q0, .int .u8 q1] 34 (0, 0)) := by rw [hWb]; exact blk_new w _
  have HBB := Lib.hid hbb
  have HBL := Lib.hid hbl
  have HWb := Lib.hid hWb
  clear hs hm wq0 wq1 hsome hbb hbl hWb
  go_enter Try.func5, Try.ntmps5
  go_wp2_with (first
    | ((go_at_call 10); rw [← HWb.out]; (with_reducible refine (sanity_any _).mono ?_); rintro e w1 ⟨rfl, hb1⟩; have HB1 := Lib.hid (HBB.out.trans (hb1.mono HBB.out.size)); have HBL1 := Lib.hid ((hb1.block _ (lt_of_block HBL.out)).trans HBL.out); have c0 : w1.cell? ⟨w.heap.size, 0, none⟩ = some (.int .u8 q0) := ck HBL1.out _ _ rfl; have c1 : w1.cell? ⟨w.heap.size, 1, none⟩ = some (.int .u8 q1) := ck HBL1.out _ _ rfl; clear hb1)
    | ((go_at_call 17); (with_reducible refine (HSO.out _).mono ?_); rintro e w2 ⟨rfl, hb2⟩; have HB2 := Lib.hid (HB1.out.trans ((drawn_below hb2).mono HB1.out.size)); clear hb2 c0 c1)
    | ((go_at_call 11); (first
      | (with_reducible refine (HSH.out w2).mono ?_; rintro e w3 ⟨rfl, hb3⟩; have HB3 := Lib.hid (HB2.out.trans (hb3.mono HB2.out.size)); clear hb3)
      | (with_reducible refine (HSH.out w4).mono ?_; rintro e w5 ⟨rfl, hb5⟩; have HB5 := Lib.hid (HB4.out.trans (hb5.mono HB4.out.size)); clear hb5)
      | (with_reducible refine (HMH.out w5).mono ?_; rintro e w6 ⟨rfl, hb6⟩; have HB6 := Lib.hid (HB5.out.trans (hb6.mono HB5.out.size)); clear hb6)
      | (with_reducible refine (HMH.out w7).mono ?_; rintro e w8 ⟨rfl, hb8⟩; have HB8 := Lib.hid (HB7.out.trans (hb8.mono HB7.out.size)); clear hb8)))
    | ((go_at_call 13); with_reducible refine (Public_yes s (by omega) n _ h1 (by omega)).mono ?_; rintro e w4 ⟨rfl, hb4⟩; have HB4 := Lib.hid (HB3.out.trans (hb4.mono HB3.out.size)); clear hb4)
    | ((go_at_call 15); with_reducible refine (Sign_yes s (by omega) n i m (by omega) _ h1 (by omega) hi).mono ?_; rintro e w7 ⟨rfl, hb7⟩; have HB7 := Lib.hid (HB6.out.trans (hb7.mono HB6.out.size)); clear hb7)
    | ((go_at_call 18); with_reducible refine (Check_own s n i m h1 (by omega) hi (by omega) _).mono ?_; rintro e w9 ⟨rfl, hb9⟩; have HB9 := Lib.hid (HB8.out.trans (hb9.mono HB8.out.size)); clear hb9))
  go_ret
  exact ⟨rfl, HB9.out⟩
set_option maxHeartbeats 2000000 in
set_option maxRecDepth 100000 in
theorem signSigns_calls (w : World) (a0 : ByteArray) (z0 : a0.size ≤ 9223372036854775807) (a1 : ByteArray) (z1 : a1.size ≤ 9223372036854775807) (q0 : Int) (wq0 : (Lit.int .i64 q0).wf = true) (q1 : Int) (wq1 : (Lit.int .i64 q1).wf = true) :
    Calls Try.prog 4 #[.string a0, .string a1, .agg #[.int .i64 q0, .int .i64 q1]] w fun e w' => e = .returned (.bool true) ∧ Below w.heap.size w w' := by
  obtain ⟨n0, n1⟩ := i64_of wq0
  obtain ⟨m0, m1⟩ := i64_of wq1
  obtain ⟨x5, hx5⟩ : ∃ x, x = q0 % ((5 : Nat) : Int) := ⟨_, rfl⟩
  obtain ⟨x7, hx7⟩ : ∃ x, x = q1 % ((7 : Nat) : Int) := ⟨_, rfl⟩
  obtain ⟨x18, hx18⟩ : ∃ x, x = q1 % ((18 : Nat) : Int) := ⟨_, rfl⟩
  have m5 : ∀ W : World, Calls Try.prog 12 #[.int .i64 q0, .int .i64 5] W fun e w' => e = .returned (.int .i64 x5) ∧ Drawn0 W w' := fun W => by rw [hx5]; exact mod_calls q0 5 n0 n1 (by omega) (by omega) W
  have m7 : ∀ W : World, Calls Try.prog 12 #[.int .i64 q1, .int .i64 7] W fun e w' => e = .returned (.int .i64 x7) ∧ Drawn0 W w' := fun W => by rw [hx7]; exact mod_calls q1 7 m0 m1 (by omega) (by omega) W
  have m18 : ∀ W : World, Calls Try.prog 12 #[.int .i64 q1, .int .i64 18] W fun e w' => e = .returned (.int .i64 x18) ∧ Drawn0 W w' := fun W => by rw [hx18]; exact mod_calls q1 18 m0 m1 (by omega) (by omega) W
  have M5 := Lib.hid m5
  have M7 := Lib.hid m7
  have M18 := Lib.hid m18
  have p1 : 0 ≤ x7 := by omega
  have p2 : x7 < 7 := by omega
  have p3 : 0 ≤ x18 := by omega
  have p4 : x18 < 18 := by omega
  obtain ⟨y7, hy7⟩ : ∃ y, y = x7 - 1 := ⟨_, rfl⟩
  obtain ⟨y18, hy18⟩ : ∃ y, y = x18 - 1 := ⟨_, rfl⟩
  have e7 : IntKind.i64.wrap (x7 - 1) = y7 := by rw [IntKind.wrap_i64]; omega
  have e18 : IntKind.i64.wrap (x18 - 1) = y18 := by rw [IntKind.wrap_i64]; omega
  obtain ⟨s, hs⟩ : ∃ s, s = c200 a0 := ⟨_, rfl⟩
  obtain ⟨m, hm⟩ : ∃ m, m = c200 a1 := ⟨_, rfl⟩
  have hsz := c200_size a0
  have hmz := c200_size a1
  have HSH := Lib.hid (fun W => short_calls a0 W)
  have HMH := Lib.hid (fun W => short_calls a1 W)
  rw [← hs] at hsz HSH
  rw [← hm] at hmz HMH
  obtain ⟨Wb, hWb⟩ : ∃ W, W = w.alloc (.cells #[.int .i64 q0, .int .i64 q1] 30) := ⟨_, rfl⟩
  have hbb : Below w.heap.size w Wb := by rw [hWb]; exact below_alloc (Below.refl _ _) _
  have hbl : Wb.heap[w.heap.size]? = some (.cells #[.int .i64 q0, .int .i64 q1] 30 (0, 0)) := by rw [hWb]; exact blk_new w _
  have HBB := Lib.hid hbb
  have HBL := Lib.hid hbl
  have HWb := Lib.hid hWb
  clear hs hm wq0 wq1 hbb hbl hWb hx5 hx7 hx18 m5 m7 m18 hy7 hy18
  go_enter Try.func4, Try.ntmps4
  go_wp2_with (first
    | ((go_at_call 10); rw [← HWb.out]; (with_reducible refine (sanity_any _).mono ?_); rintro e w1 ⟨rfl, hb1⟩; have HB1 := Lib.hid (HBB.out.trans (hb1.mono HBB.out.size)); have HBL1 := Lib.hid ((hb1.block _ (lt_of_block HBL.out)).trans HBL.out); clear hb1)
    | ((go_at_call 11); (first
      | ((with_reducible refine (HSH.out w1).mono ?_); rintro e w2 ⟨rfl, hb2⟩; have HB2 := Lib.hid (HB1.out.trans (hb2.mono HB1.out.size)); have HBL2 := Lib.hid ((hb2.block _ (lt_of_block HBL1.out)).trans HBL1.out); clear hb2)
      | ((with_reducible refine (HMH.out w2).mono ?_); rintro e w3 ⟨rfl, hb3⟩; have HB3 := Lib.hid (HB2.out.trans (hb3.mono HB2.out.size)); have HBL3 := Lib.hid ((hb3.block _ (lt_of_block HBL2.out)).trans HBL2.out); clear hb3))))
  have c0 : w3.drew.cell? ⟨w.heap.size, 0, none⟩ = some (.int .i64 q0) := ck (w := w3.drew) HBL3.out _ _ rfl
  have c1 : w3.drew.cell? ⟨w.heap.size, 1, none⟩ = some (.int .i64 q1) := ck (w := w3.drew) HBL3.out _ _ rfl
  have hlt0 := World.block_lt_of_cell? _ _ c0
  have hlt1 := World.block_lt_of_cell? _ _ c1
  have HBd := Lib.hid (below_drew1 HB3.out)
  refine start_ (n := 17) (S := fun w' => w'.cell? ⟨w.heap.size, 0, none⟩ = some (.int .i64 q0) ∧ w'.cell? ⟨w.heap.size, 1, none⟩ = some (.int .i64 q1)) (ds := []) #[false, false, false, false, false, false, false, false, false, false, false, false, false, false, false, false, false] (by kernel_rfl) rfl rfl ⟨c0, c1⟩ (fun hHeld => ?_)
  generalize w3.drew = wd at HBd c0 c1 hlt0 hlt1 hHeld ⊢; have HX := Lib.hid (Below.refl wd.heap.size wd)
  refine pure_ (i := 1) (N := some 20) (v := ?_) (a' := ?_) #[false, true, false, false, false, false, false, false, false, false, false, false, false, false, false, false, false] rfl rfl (by kernel_rfl) (fun _ _ _ h => h) (Or.inl ⟨by rfl, ?_⟩) ?_ ?_
  rotate_left
  · intro w'
    go_simp
    with_reducible rfl
  rotate_left
  · simp only [Act.put, List.setIfInBounds_toArray, List.set_cons_zero, List.set_cons_succ, i64_w, i32_w]
    rfl
  refine pure_ (i := 4) (N := some 23) (v := ?_) (a' := ?_) #[false, true, false, false, true, false, false, false, false, false, false, false, false, false, false, false, false] rfl rfl (by kernel_rfl) (fun _ _ _ h => h) (Or.inl ⟨by rfl, ?_⟩) ?_ ?_
  rotate_left
  · intro w'
    go_simp
    with_reducible rfl
  rotate_left
  · simp only [Act.put, List.setIfInBounds_toArray, List.set_cons_zero, List.set_cons_succ, i64_w, i32_w]
    rfl
  refine pure_ (i := 9) (N := some 28) (v := ?_) (a' := ?_) #[false, true, false, false, true, false, false, false, false, true, false, false, false, false, false, false, false] rfl rfl (by kernel_rfl) (fun _ _ _ h => h) (Or.inl ⟨by rfl, ?_⟩) ?_ ?_
  rotate_left
  · intro w'
    go_simp
    with_reducible rfl
  rotate_left
  · simp only [Act.put, List.setIfInBounds_toArray, List.set_cons_zero, List.set_cons_succ, i64_w, i32_w]
    rfl
  refine pure_ (i := 16) (N := some 35) (v := ?_) (a' := ?_) #[false, true, false, false, true, false, false, false, false, true, false, false, false, false, false, false, true] rfl rfl (by kernel_rfl) (fun _ _ _ h => h) (Or.inl ⟨by rfl, ?_⟩) ?_ ?_
  rotate_left
  · intro w'
    go_simp
    with_reducible rfl
  rotate_left
  · simp only [Act.put, List.setIfInBounds_toArray, List.set_cons_zero, List.set_cons_succ, i64_w, i32_w]
    rfl
  refine take_ (i := 0) (N := some 19) (v := ?_) (a' := ?_) #[true, true, false, false, true, false, false, false, false, true, false, false, false, false, false, false, true] rfl rfl (by kernel_rfl) (fun _ _ _ h => h) (Or.inl ⟨by rfl, ?_⟩) hHeld ?_ ?_
  rotate_left
  · rintro w' ⟨s0, s1⟩
    go_simp
    with_reducible rfl
  rotate_left
  · simp only [Act.put, List.setIfInBounds_toArray, List.set_cons_zero, List.set_cons_succ, i64_w, i32_w]
    rfl
  refine take_ (i := 2) (N := some 21) (v := ?_) (a' := ?_) #[true, true, true, false, true, false, false, false, false, true, false, false, false, false, false, false, true] rfl rfl (by kernel_rfl) (fun _ _ _ h => h) (Or.inl ⟨by rfl, ?_⟩) hHeld ?_ ?_
  rotate_left
  · rintro w' ⟨s0, s1⟩
    go_simp
    with_reducible rfl
  rotate_left
  · simp only [Act.put, List.setIfInBounds_toArray, List.set_cons_zero, List.set_cons_succ, i64_w, i32_w]
    rfl
  refine take_ (i := 5) (N := some 24) (v := ?_) (a' := ?_) #[true, true, true, false, true, true, false, false, false, true, false, false, false, false, false, false, true] rfl rfl (by kernel_rfl) (fun _ _ _ h => h) (Or.inl ⟨by rfl, ?_⟩) hHeld ?_ ?_
  rotate_left
  · rintro w' ⟨s0, s1⟩
    go_simp
    with_reducible rfl
  rotate_left
  · simp only [Act.put, List.setIfInBounds_toArray, List.set_cons_zero, List.set_cons_succ, i64_w, i32_w]
    rfl
  refine take_ (i := 10) (N := some 29) (v := ?_) (a' := ?_) #[true, true, true, false, true, true, false, false, false, true, true, false, false, false, false, false, true] rfl rfl (by kernel_rfl) (fun _ _ _ h => h) (Or.inl ⟨by rfl, ?_⟩) hHeld ?_ ?_
  rotate_left
  · rintro w' ⟨s0, s1⟩
    go_simp
    with_reducible rfl
  rotate_left
  · simp only [Act.put, List.setIfInBounds_toArray, List.set_cons_zero, List.set_cons_succ, i64_w, i32_w]
    rfl
  refine one_ (i := 3) (N := some 22) #[true, true, true, true, true, true, false, false, false, true, true, false, false, false, false, false, true] rfl rfl (by kernel_rfl) (by decide) (fun K hK => ?_)
  refine goes_ Try.func12 (by kernel_rfl) rfl #[.int .i64 q0, .int .i64 5] (by rfl) rfl rfl (by simp only [List.map_toArray, List.map_cons, List.map_nil]; rfl) ?_
  with_reducible refine (M5.out _).mono ?_
  rintro e wx ⟨rfl, hbx⟩
  refine ⟨_, rfl, ?_⟩
  have n_ := Lib.hid (HX.out.trans ((drawn_below hbx).mono HX.out.size)); clear HX; have HX := n_; clear n_
  refine hK.out _ _ ⟨(HX.out.cell hlt0).trans c0, (HX.out.cell hlt1).trans c1⟩ (fun hHeld => ?_)
  clear hK K
  refine norm_ (a' := ?_) ?_ ?_
  rotate_left
  · show Act.put _ (some 22) _ = _
    simp only [Act.put, List.setIfInBounds_toArray, List.set_cons_zero, List.set_cons_succ, i64_w, i32_w]
    rfl
  refine one_ (i := 6) (N := some 25) #[true, true, true, true, true, true, true, false, false, true, true, false, false, false, false, false, true] rfl rfl (by kernel_rfl) (by decide) (fun K hK => ?_)
  refine goes_ Try.func12 (by kernel_rfl) rfl #[.int .i64 q1, .int .i64 7] (by rfl) rfl rfl (by simp only [List.map_toArray, List.map_cons, List.map_nil]; rfl) ?_
  with_reducible refine (M7.out _).mono ?_
  rintro e wx ⟨rfl, hbx⟩
  refine ⟨_, rfl, ?_⟩
  have n_ := Lib.hid (HX.out.trans ((drawn_below hbx).mono HX.out.size)); clear HX; have HX := n_; clear n_
  refine hK.out _ _ ⟨(HX.out.cell hlt0).trans c0, (HX.out.cell hlt1).trans c1⟩ (fun hHeld => ?_)
  clear hK K
  refine norm_ (a' := ?_) ?_ ?_
  rotate_left
  · show Act.put _ (some 25) _ = _
    simp only [Act.put, List.setIfInBounds_toArray, List.set_cons_zero, List.set_cons_succ, i64_w, i32_w]
    rfl
  refine pure_ (i := 7) (N := some 26) (v := ?_) (a' := ?_) #[true, true, true, true, true, true, true, true, false, true, true, false, false, false, false, false, true] rfl rfl (by kernel_rfl) (fun _ _ _ h => h) (Or.inl ⟨by rfl, ?_⟩) ?_ ?_
  rotate_left
  · intro w'
    go_simp
    with_reducible rfl
  rotate_left
  · simp only [Act.put, List.setIfInBounds_toArray, List.set_cons_zero, List.set_cons_succ, i64_w, i32_w]
    rfl
  refine pure_ (i := 8) (N := some 27) (v := ?_) (a' := ?_) #[true, true, true, true, true, true, true, true, true, true, true, false, false, false, false, false, true] rfl rfl (by kernel_rfl) (fun _ _ _ h => h) (Or.inl ⟨by rfl, ?_⟩) ?_ ?_
  rotate_left
  · intro w'
    go_simp
    with_reducible rfl
  rotate_left
  · simp only [Act.put, List.setIfInBounds_toArray, List.set_cons_zero, List.set_cons_succ, i64_w, i32_w]
    rfl
  refine one_ (i := 11) (N := some 30) #[true, true, true, true, true, true, true, true, true, true, true, true, false, false, false, false, true] rfl rfl (by kernel_rfl) (by decide) (fun K hK => ?_)
  refine goes_ Try.func12 (by kernel_rfl) rfl #[.int .i64 q1, .int .i64 18] (by rfl) rfl rfl (by simp only [List.map_toArray, List.map_cons, List.map_nil]; rfl) ?_
  with_reducible refine (M18.out _).mono ?_
  rintro e wx ⟨rfl, hbx⟩
  refine ⟨_, rfl, ?_⟩
  have n_ := Lib.hid (HX.out.trans ((drawn_below hbx).mono HX.out.size)); clear HX; have HX := n_; clear n_
  refine hK.out _ _ ⟨(HX.out.cell hlt0).trans c0, (HX.out.cell hlt1).trans c1⟩ (fun hHeld => ?_)
  clear hK K
  refine norm_ (a' := ?_) ?_ ?_
  rotate_left
  · show Act.put _ (some 30) _ = _
    simp only [Act.put, List.setIfInBounds_toArray, List.set_cons_zero, List.set_cons_succ, i64_w, i32_w]
    rfl
  refine pure_ (i := 12) (N := some 31) (v := ?_) (a' := ?_) #[true, true, true, true, true, true, true, true, true, true, true, true, true, false, false, false, true] rfl rfl (by kernel_rfl) (fun _ _ _ h => h) (Or.inl ⟨by rfl, ?_⟩) ?_ ?_
  rotate_left
  · intro w'
    go_simp
    with_reducible rfl
  rotate_left
  · simp only [Act.put, List.setIfInBounds_toArray, List.set_cons_zero, List.set_cons_succ, i64_w, i32_w]
    rfl
  refine pure_ (i := 13) (N := some 32) (v := ?_) (a' := ?_) #[true, true, true, true, true, true, true, true, true, true, true, true, true, true, false, false, true] rfl rfl (by kernel_rfl) (fun _ _ _ h => h) (Or.inl ⟨by rfl, ?_⟩) ?_ ?_
  rotate_left
  · intro w'
    go_simp
    with_reducible rfl
  rotate_left
  · simp only [Act.put, List.setIfInBounds_toArray, List.set_cons_zero, List.set_cons_succ, i64_w, i32_w]
    rfl
  refine one_ (i := 14) (N := some 33) #[true, true, true, true, true, true, true, true, true, true, true, true, true, true, true, false, true] rfl rfl (by kernel_rfl) (by decide) (fun K hK => ?_)
  refine value_ (w1 := ?_) (v := ?_) (by rfl) rfl ?_ ?_
  rotate_left 2
  · go_simp
    constructor
    · rfl
    · rfl
  refine hK.out _ _ ⟨(World.cell?_alloc_lt _ _ _ (World.block_lt_of_cell? _ _ ((HX.out.cell hlt0).trans c0))).trans ((HX.out.cell hlt0).trans c0), (World.cell?_alloc_lt _ _ _ (World.block_lt_of_cell? _ _ ((HX.out.cell hlt1).trans c1))).trans ((HX.out.cell hlt1).trans c1)⟩ (fun hHeld => ?_)
  clear hK K
  refine norm_ (a' := ?_) ?_ ?_
  rotate_left
  · show Act.put _ (some 33) _ = _
    simp only [Act.put, List.setIfInBounds_toArray, List.set_cons_zero, List.set_cons_succ, i64_w, i32_w]
    rfl
  refine pure_ (i := 15) (N := some 34) (v := ?_) (a' := ?_) #[true, true, true, true, true, true, true, true, true, true, true, true, true, true, true, true, true] rfl rfl (by kernel_rfl) (fun _ _ _ h => h) (Or.inl ⟨by rfl, ?_⟩) ?_ ?_
  rotate_left
  · intro w'
    go_simp
    with_reducible rfl
  rotate_left
  · simp only [Act.put, List.setIfInBounds_toArray, List.set_cons_zero, List.set_cons_succ, i64_w, i32_w]
    rfl
  refine done_ (by kernel_rfl) ?_
  have hw := heap_alloc_new wx (.cells #[.int .i64 q0, .int .i64 q1, .int .i64 x5, .int .i64 y7, .int .i64 16, .int .i64 y18] 30)
  have HBA := Lib.hid (HBd.out.trans ((below_alloc HX.out (.cells #[.int .i64 q0, .int .i64 q1, .int .i64 x5, .int .i64 y7, .int .i64 16, .int .i64 y18] 30)).mono HBd.out.size))
  have hints : ∀ j : Nat, j < 3 → ∃ a b : Int, (wx.alloc (.cells #[.int .i64 q0, .int .i64 q1, .int .i64 x5, .int .i64 y7, .int .i64 16, .int .i64 y18] 30)).cell? ⟨wx.heap.size, j * 2, none⟩ = some (.int .i64 a) ∧
      (wx.alloc (.cells #[.int .i64 q0, .int .i64 q1, .int .i64 x5, .int .i64 y7, .int .i64 16, .int .i64 y18] 30)).cell? ⟨wx.heap.size, j * 2 + 1, none⟩ = some (.int .i64 b) := by
    intro j hj
    obtain rfl | rfl | rfl : j = 0 ∨ j = 1 ∨ j = 2 := by omega
    · exact ⟨_, _, ck hw _ _ rfl, ck hw _ _ rfl⟩
    · exact ⟨_, _, ck hw _ _ rfl, ck hw _ _ rfl⟩
    · exact ⟨_, _, ck hw _ _ rfl, ck hw _ _ rfl⟩
  have HINTS := Lib.hid hints
  clear hw hints hHeld c0 c1 hlt0 hlt1
  generalize wx.alloc (.cells #[.int .i64 q0, .int .i64 q1, .int .i64 x5, .int .i64 y7, .int .i64 16, .int .i64 y18] 30) = wa at *
  generalize wx.heap.size = g at *
  clear e7 e18 p1 p2 p3 p4
  go_wp2
  go_loopw [9, 10, 11, 12, 13, 35] (fun _ _ _ _ _ kv wr => ∃ k : Nat, k ≤ 3 ∧ kv = .int .i64 k ∧ Below wa.heap.size wa wr) (fun _ _ _ _ _ kv _ => 3 - (intOf kv).toNat)
  case atStart => exact ⟨0, by omega, rfl, Below.refl _ _⟩
  case round =>
    obtain ⟨k, hk, rfl, hB⟩ := hrel
    by_cases hlt : k < 3
    · obtain ⟨a, b, ha, hb⟩ := HINTS.out k hlt
      have q0 : wr.cell? ⟨g, k * 2, none⟩ = some (.int .i64 a) := (hB.cell (World.block_lt_of_cell? _ _ ha)).trans ha
      have q1 : wr.cell? ⟨g, k * 2 + 1, none⟩ = some (.int .i64 b) := (hB.cell (World.block_lt_of_cell? _ _ hb)).trans hb
      have r1 : (0 ≤ (k : Int)) = True := eq_true (by omega)
      have r2 : ((k : Int) < 3) = True := eq_true (by omega)
      have r3 : decide ((k : Int) < 3) = true := decide_eq_true (by omega)
      obtain ⟨v, er, hp, hr⟩ := Sign_pair s (by omega) a b m (by omega)
      have PP := Lib.hid hp
      have PR := Lib.hid hr
      have HB := Lib.hid hB
      clear ha hb hB hp hr
      have hv := same_toList v
      have HN := Lib.hid (heap_alloc_new wr (.cells #[.int .i64 a, .int .i64 b] 30))
      have HBN := Lib.hid (HB.out.trans ((below_alloc (Below.refl wr.heap.size wr) (.cells #[.int .i64 a, .int .i64 b] 30)).mono HB.out.size))
      go_wp2_with (first
        | ((go_at_call 15); (with_reducible refine (PP.out _).mono ?_); rintro e w5 ⟨rfl, hb5⟩; have HB5 := Lib.hid (HBN.out.trans (hb5.mono HBN.out.size)); have d0 : w5.cell? ⟨wr.heap.size, 0, none⟩ = some (.int .i64 a) := (hb5.cell (p := ⟨wr.heap.size, 0, none⟩) (by simp)).trans (ck HN.out _ _ rfl); have d1 : w5.cell? ⟨wr.heap.size, 1, none⟩ = some (.int .i64 b) := (hb5.cell (p := ⟨wr.heap.size, 1, none⟩) (by simp)).trans (ck HN.out _ _ rfl); clear hb5)
        | ((go_at_call 16); (with_reducible refine (PR.out _).mono ?_); rintro e w6 ⟨rfl, hb6⟩; have HB6 := Lib.hid (HB5.out.trans (hb6.mono HB5.out.size)); clear hb6))
      go_roundw
      case rel => exact ⟨k + 1, by omega, by go_num, HB6.out⟩
      case measure => simp [intOf]; omega
    · obtain rfl : k = 3 := by omega
      have r3 : decide (((3 : Nat) : Int) < 3) = false := by decide
      go_wp2
      go_ret
      exact ⟨rfl, HBA.out.trans (hB.mono HBA.out.size)⟩
end Go.Proofs.Ytoolionhheiihaa.Sg
