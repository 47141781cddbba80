/- The program beside the reference of layer 4; SignRaw, SignPublics, SignRight. -/
import Derived.Test.YtoolionhheiihaaSgY
set_option linter.unusedVariables false
set_option linter.unusedSimpArgs false
namespace Go.Proofs.Ytoolionhheiihaa.Sg
open Go.RowKit Go.Proofs.YtoolionhheiihaaW.PrintWords Go.Proofs.YtoolionhheiihaaW.PrintLast Go.Proofs.YtoolionhheiihaaW.PrintMore Go.Proofs.Ytoolionhheiihaa.Dg Go.Proofs.Ytoolionhheiihaa.Gv Go.Proofs.Ytoolionhheiihaa.Pb Go.Proofs.Ytoolionhheiihaa.Gw Go.Proofs.Ytoolionhheiihaa.Pure
attribute [local go_sem] max2_int min2_int max_two min_two
theorem Public_pair (seed : ByteArray) (hs : seed.size ≤ 9000) (n : Int) : ∃ (v : ByteArray) (er : Int), (∀ w : World, Calls Try.prog 13 #[.string seed, .int .i64 n] w fun e w' => e = .returned (.tuple #[.string v, .int .i64 er]) ∧ Below w.heap.size w w') ∧
    (∀ w : World, Calls Try.prog 14 #[.string seed, .int .i64 n] w fun e w' => e = .returned (.tuple #[.string v, .int .i64 er]) ∧ Below w.heap.size w w') := by
  by_cases h : 1 ≤ n ∧ n ≤ 16
  · obtain ⟨m, rfl⟩ : ∃ m : Nat, n = m := ⟨n.toNat, by omega⟩
    obtain ⟨k, hk⟩ := (Public_ev seed hs m (by omega) (by omega)).rounds
    exact ⟨_, _, fun w => Public_yes seed hs m w (by omega) (by omega), fun w => abugidaref04_Public.calls k seed m _ _ w hk⟩
  · obtain ⟨k, hk⟩ := (Public_ev_no seed n (by omega)).rounds
    exact ⟨_, _, fun w => Public_no seed n w (by omega), fun w => abugidaref04_Public.calls k seed n _ _ w hk⟩
set_option maxHeartbeats 1000000 in
set_option maxRecDepth 100000 in
theorem signRaw_calls (w : World) (a0 : ByteArray) (z0 : a0.size ≤ 9223372036854775807) (a1 : ByteArray) (z1 : a1.size ≤ 9223372036854775807) (a2 : ByteArray) (z2 : a2.size ≤ 9223372036854775807) :
    Calls Try.prog 8 #[.string a0, .string a1, .string a2] w fun e w' => e = .returned (.bool true) ∧ Below w.heap.size w w' := by
  obtain ⟨j0, hj0⟩ : ∃ j : Int, (if (400 : Int) < (a0.size : Int) then 400 else (a0.size : Int)) = j := ⟨_, rfl⟩
  obtain ⟨j1, hj1⟩ : ∃ j : Int, (if (400 : Int) < (a1.size : Int) then 400 else (a1.size : Int)) = j := ⟨_, rfl⟩
  obtain ⟨j2, hj2⟩ : ∃ j : Int, (if (400 : Int) < (a2.size : Int) then 400 else (a2.size : Int)) = j := ⟨_, rfl⟩
  have b00 : (0 ≤ j0) = True := eq_true (by rw [← hj0]; split <;> omega)
  have b01 : (j0 ≤ (a0.size : Int)) = True := eq_true (by rw [← hj0]; split <;> omega)
  have b10 : (0 ≤ j1) = True := eq_true (by rw [← hj1]; split <;> omega)
  have b11 : (j1 ≤ (a1.size : Int)) = True := eq_true (by rw [← hj1]; split <;> omega)
  have b20 : (0 ≤ j2) = True := eq_true (by rw [← hj2]; split <;> omega)
  have b21 : (j2 ≤ (a2.size : Int)) = True := eq_true (by rw [← hj2]; split <;> omega)
  have hm : (a1.extract 0 j1.toNat).size ≤ 9000 := by simp only [ByteArray.size_extract]; rw [← hj1]; split <;> omega
  have hs : (a2.extract 0 j2.toNat).size ≤ 1000 := by simp only [ByteArray.size_extract]; rw [← hj2]; split <;> omega
  obtain ⟨r, hp, hr⟩ := Check_pair (a0.extract 0 j0.toNat) (a1.extract 0 j1.toNat) (a2.extract 0 j2.toNat) hs hm
  have HP := Lib.hid hp
  have HR := Lib.hid hr
  clear hm hs hp hr
  go_enter Try.func8, Try.ntmps8
  go_wp2_with (go_at_call 10; with_reducible refine (sanity_any _).mono ?_; rintro e w1 ⟨rfl, hb1⟩; have HB1 := Lib.hid hb1; clear hb1)
  go_quiet (fail)
  clear hj0 hj1 hj2 b00 b01 b10 b11 b20 b21 z0 z1 z2
  generalize a0.extract 0 j0.toNat = x0 at *
  generalize a1.extract 0 j1.toNat = x1 at *
  generalize a2.extract 0 j2.toNat = x2 at *
  go_wp2_with (first
    | (go_at_call 18; (with_reducible refine (HP.out _).mono ?_); rintro e w2 ⟨rfl, hb2⟩; have HB2 := Lib.hid ((pw_below_drewN HB1.out _).trans (hb2.mono HB1.out.size)); clear hb2)
    | (go_at_call 33; with_reducible refine (HR.out _).mono ?_; rintro e w3 ⟨rfl, hb3⟩; have HB3 := Lib.hid (HB2.out.trans (hb3.mono HB2.out.size)); clear hb3))
  go_ret
  exact ⟨by simp, HB3.out⟩
set_option maxHeartbeats 2000000 in
set_option maxRecDepth 100000 in
theorem signPublics_calls (w : World) (a0 : ByteArray) (w0 : a0.size ≤ 9223372036854775807) (n : Int) (wn : (Lit.int .i64 n).wf = true) :
    Calls Try.prog 3 #[.string a0, .int .i64 n] w fun e w' => e = .returned (.bool true) ∧ Below w.heap.size w w' := by
  obtain ⟨n0, n1⟩ := i64_of wn
  obtain ⟨x, hx⟩ : ∃ x, x = n % ((4 : Nat) : Int) := ⟨_, rfl⟩
  obtain ⟨y, hy⟩ : ∃ y, y = n % ((19 : Nat) : Int) := ⟨_, rfl⟩
  have x0 : 0 ≤ x := by omega
  have x1 : x < 4 := by omega
  have y0 : 0 ≤ y := by omega
  have y1 : y < 19 := by omega
  have m4 : ∀ W : World, Calls Try.prog 12 #[.int .i64 n, .int .i64 4] W fun e w' => e = .returned (.int .i64 x) ∧ Drawn0 W w' := fun W => by rw [hx]; exact mod_calls n 4 n0 n1 (by omega) (by omega) W
  have m19 : ∀ W : World, Calls Try.prog 12 #[.int .i64 n, .int .i64 19] W fun e w' => e = .returned (.int .i64 y) ∧ Drawn0 W w' := fun W => by rw [hy]; exact mod_calls n 19 n0 n1 (by omega) (by omega) W
  have M4 := Lib.hid m4
  have M19 := Lib.hid m19
  clear m4 m19
  obtain ⟨s, hs⟩ : ∃ s, s = c200 a0 := ⟨_, rfl⟩
  have hsz := c200_size a0
  have HSH := Lib.hid (fun W => short_calls a0 W)
  rw [← hs] at hsz HSH
  clear hx hy hs wn
  go_enter Try.func3, Try.ntmps3
  go_wp2_with (first
    | (go_at_call 10; with_reducible refine (sanity_any _).mono ?_; rintro e w1 ⟨rfl, hb1⟩; have HB1 := Lib.hid hb1; clear hb1)
    | (go_at_call 11; with_reducible refine (HSH.out _).mono ?_; rintro e w2 ⟨rfl, hb2⟩; have HB2 := Lib.hid (HB1.out.trans (hb2.mono HB1.out.size)); clear hb2)
    | (go_at_call 12; (first
      | (with_reducible refine (M4.out _).mono ?_; rintro e w3 ⟨rfl, hb3⟩; have HB3 := Lib.hid (HB2.out.trans ((drawn_below hb3).mono HB2.out.size)); clear hb3)
      | (with_reducible refine (M19.out _).mono ?_; rintro e w4 ⟨rfl, hb4⟩; have HB4 := Lib.hid (HB3.out.trans ((drawn_below hb4).mono HB3.out.size)); clear hb4))))
  have hw := heap_alloc_new w4 (.cells #[.int .i64 n, .int .i64 (x + 1), .int .i64 (y - 1)] 3)
  have HBA := Lib.hid (below_alloc HB4.out (.cells #[.int .i64 n, .int .i64 (x + 1), .int .i64 (y - 1)] 3))
  have hints : ∀ j : Nat, j < 3 → ∃ a : Int, (w4.alloc (.cells #[.int .i64 n, .int .i64 (x + 1), .int .i64 (y - 1)] 3)).cell? ⟨w4.heap.size, j, none⟩ = some (.int .i64 a) := by
    intro j hj
    obtain rfl | rfl | rfl : j = 0 ∨ j = 1 ∨ j = 2 := by omega
    · exact ⟨_, ck hw _ _ rfl⟩
    · exact ⟨_, ck hw _ _ rfl⟩
    · exact ⟨_, ck hw _ _ rfl⟩
  have HINTS := Lib.hid hints
  clear hw hints
  generalize w4.alloc (.cells #[.int .i64 n, .int .i64 (x + 1), .int .i64 (y - 1)] 3) = wa at *
  generalize w4.heap.size = g at *
  go_loopw [7, 8, 9, 10, 11, 24] (fun _ _ _ _ _ kv wr => ∃ k : Nat, k ≤ 3 ∧ kv = .int .i64 k ∧ Below wa.heap.size wa wr) (fun _ _ _ _ _ kv _ => 3 - (intOf kv).toNat)
  case atStart => exact ⟨0, by omega, rfl, Below.refl _ _⟩
  case round =>
    obtain ⟨k, hk, rfl, hB⟩ := hrel
    by_cases hlt : k < 3
    · obtain ⟨a, ha⟩ := HINTS.out k hlt
      have q0 : wr.cell? ⟨g, k, none⟩ = some (.int .i64 a) := (hB.cell (World.block_lt_of_cell? _ _ ha)).trans ha
      have r1 : (0 ≤ (k : Int)) = True := eq_true (by omega)
      have r2 : ((k : Int) < 3) = True := eq_true (by omega)
      have r3 : decide ((k : Int) < 3) = true := decide_eq_true (by omega)
      obtain ⟨v, er, hp, hr⟩ := Public_pair s (by omega) a
      have PP := Lib.hid hp
      have PR := Lib.hid hr
      have HB := Lib.hid hB
      clear ha hB hp hr
      have hv := same_toList v
      go_wp2_with (first
        | (go_at_call 13; with_reducible refine (PP.out _).mono ?_; rintro e w5 ⟨rfl, hb5⟩; have HB5 := Lib.hid (HB.out.trans (hb5.mono HB.out.size)); clear hb5)
        | (go_at_call 14; with_reducible refine (PR.out _).mono ?_; rintro e w6 ⟨rfl, hb6⟩; have HB6 := Lib.hid (HB5.out.trans (hb6.mono HB5.out.size)); clear hb6))
      go_roundw
      case rel => exact ⟨k + 1, by omega, by go_num, HB6.out⟩
      case measure => simp [intOf]; omega
    · obtain rfl : k = 3 := by omega
      have r3 : decide (((3 : Nat) : Int) < 3) = false := by decide
      go_wp2
      go_ret
      exact ⟨rfl, HBA.out.trans (hB.mono HBA.out.size)⟩
end Go.Proofs.Ytoolionhheiihaa.Sg
