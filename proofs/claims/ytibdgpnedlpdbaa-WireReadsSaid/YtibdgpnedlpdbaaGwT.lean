/- The reference's Reader.Int: its contract. -/
import Derived.Test.YtibdgpnedlpdbaaGwR
import Derived.Deep.RegionHeld3
set_option linter.unusedVariables false
set_option linter.unusedSimpArgs false
namespace Go.Proofs.Ytibdgpnedlpdbaa.Gw
open Go.RowKit Go.Proofs.YtibdgpnedlpdbaaW.PrintWords Go.Proofs.YtibdgpnedlpdbaaW.PrintLast Go.Proofs.YtibdgpnedlpdbaaW.PrintMore Go.Proofs.Ytibdgpnedlpdbaa.Pb
theorem RJ.set {w0 w W : World} {g : Nat} {s : ByteArray} {i : Int} {b : Bool} (h : RJ w0 w g s i b W) (j : Int) : RJ w0 w g s j b (W.setCell ⟨g, 1, none⟩ (.int .i64 j)) :=
  ⟨IsS56.set_1 h.1 j, h.2.1.setCell h.1.ge _, h.2.2.set_ 1 _⟩
theorem RJ.grow {w0 w W W' : World} {g : Nat} {s : ByteArray} {i : Int} {b : Bool} (h : RJ w0 w g s i b W) (hw : w0.heap.size ≤ w.heap.size) (hb : Below W.heap.size W W') : RJ w0 w g s i b W' :=
  ⟨h.1.below hb, h.2.1.trans (hb.mono h.2.1.size), Nat.le_trans h.2.2.1 hb.size, fun i hi hgi hr => (hb.block i (Nat.lt_of_lt_of_le hi h.2.2.1)).trans (h.2.2.2 i hi hgi hr)⟩
theorem u64_range (x : Int) : 0 ≤ IntKind.u64.wrap x ∧ IntKind.u64.wrap x < 18446744073709551616 := by
  simp [IntKind.wrap, IntKind.bits, IntKind.signed]
  omega
theorem codeAt_range (s : ByteArray) (i : Nat) : ∀ (m : Nat) (c : Int), 0 ≤ c ∧ c < 18446744073709551616 → 0 ≤ codeAt s i m c ∧ codeAt s i m c < 18446744073709551616
  | 0, c, h => h
  | m + 1, c, _ => codeAt_range s i m _ (u64_range _)
theorem zero_facts (cc : Int) (hr : 0 ≤ cc ∧ cc < 18446744073709551616) (i n sz : Nat) (h2 : n < sz - i) (hs : sz ≤ 1152921504606846976) :
    ∃ Q j1 j2 : Int, Q = cc / 2 ∧ j2 = ((i + n + 1 : Nat) : Int) ∧ cc.tdiv 2 = Q ∧ IntKind.i64.wrap Q = Q ∧ wrap64 Q = Q ∧ IntKind.u64.wrap Q = Q ∧
      IntKind.i64.wrap ((i : Int) + (n : Int)) = j1 ∧ wrap64 ((i : Int) + (n : Int)) = j1 ∧ IntKind.i64.wrap (j1 + 1) = j2 ∧ wrap64 (j1 + 1) = j2 ∧
      ((i : Int) ≤ j2) = True ∧ (j2 ≤ (sz : Int)) = True ∧ (0 ≤ (i : Int)) = True ∧ (0 ≤ j2) = True ∧ j2.toNat = i + n + 1 := by
  refine ⟨cc / 2, ((i + n : Nat) : Int), ((i + n + 1 : Nat) : Int), rfl, rfl, ?_, ?_, ?_, ?_, ?_, ?_, ?_, ?_, eq_true ?_, eq_true ?_, eq_true ?_, eq_true ?_, ?_⟩
  · rw [Int.tdiv_eq_ediv_of_nonneg hr.1]
  · rw [IntKind.wrap_i64]; omega
  · unfold wrap64; omega
  · simp [IntKind.wrap, IntKind.bits, IntKind.signed]; omega
  · rw [IntKind.wrap_i64]; omega
  · unfold wrap64; omega
  · rw [IntKind.wrap_i64]; omega
  · unfold wrap64; omega
  · omega
  · omega
  · omega
  · omega
  · omega
theorem odd_facts (cc : Int) (hr : 0 ≤ cc ∧ cc < 18446744073709551616) (Q : Int) (hQ : Q = cc / 2) : wrap64 (-Q) = -Q ∧ wrap64 (-Q - 1) = -Q - 1 := by
  constructor <;> unfold wrap64 <;> omega
theorem bt_nonneg (s : ByteArray) (j : Int) : 0 ≤ bt s j := by
  unfold bt
  split <;> omega
theorem lt_aux {i m n sz : Nat} (h : m + 1 ≤ n + 1) (h2 : n < sz - i) : ((i + m : Nat) : Int) < (sz : Int) := by omega
theorem nn_aux {j : Int} {n : Nat} (h : j = (n : Int)) : 0 ≤ j := by omega
def outF (C : Int) : Int := if C % 2 = 1 then -(C / 2) - 1 else C / 2
set_option maxHeartbeats 4000000 in
theorem ref_good (k g : Nat) (s : ByteArray) (i : Nat) (hi : i ≤ s.size) (hs : s.size ≤ 1152921504606846976) (w0 w : World) (hI : IsS56 w0 w g s i false) (hB : Below w0.heap.size w0 w)
    (C : Int) (hgood : cntF s i 10 0 < 10 ∧ cntF s i 10 0 < s.size - i) (hC : codeAt s i (cntF s i 10 0 + 1) 0 = C) (e : ByteArray) (he : abugidaref02_Int.f k (outF C) = some e) (r i2 : Int) (b2 : Bool) (hres : (if e.toList = (s.extract i (i + cntF s i 10 0 + 1)).toList then (outF C, ((i + cntF s i 10 0 + 1 : Nat) : Int), false) else (0, (i : Int), true)) = (r, i2, b2)) :
    Calls Try.prog 25 #[.pointer (some ⟨g, 0, none⟩)] w fun x w' => x = .returned (.int .i64 r) ∧ RJ w0 w g s i2 b2 w' := by
  have HL := Lib.hid (Left_ref s i hi hs)
  have HI := Lib.hid hI
  have HGOOD := Lib.hid hgood
  have HCC := Lib.hid hC
  have HE := Lib.hid he
  have HRES := Lib.hid hres
  have HR0 := Lib.hid (show 0 ≤ C ∧ C < 18446744073709551616 by rw [← hC]; exact codeAt_range s i _ 0 (by omega))
  clear hI hgood hC he hres
  go_enter Try.func25, Try.ntmps25
  go_wp2
  go_loopw [3] (fun v wr => ∃ n : Nat, n ≤ 10 ∧ v = .int .i64 n ∧ RJ w0 w g s i false wr ∧ cntF s i (10 - n) n = cntF s i 10 0) (fun v _ => 10 - (intOf v).toNat)
  case atStart => exact ⟨0, by omega, rfl, ⟨HI.out, hB, KeepBut.refl _ _ _⟩, rfl⟩
  case round =>
    obtain ⟨n, hn, rfl, hR, hc⟩ := hrel
    have HR := Lib.hid hR
    have HC := Lib.hid hc
    clear hR hc
    by_cases h1 : n < 10
    · have e1 : decide ((n : Int) < 10) = true := decide_eq_true (by omega)
      have e1' : ((n : Int) == 10) = false := beq_eq_false_iff_ne.mpr (by omega)
      by_cases h2 : n < s.size - i
      · have e2 : decide ((n : Int) < ((s.size - i : Nat) : Int)) = true := decide_eq_true (by omega)
        obtain ⟨jj, hjj⟩ : ∃ jj : Int, jj = ((i + n : Nat) : Int) := ⟨_, rfl⟩
        have e3 : IntKind.i64.wrap ((i : Int) + (n : Int)) = jj := by rw [hjj, IntKind.wrap_i64]; omega
        have e3' : wrap64 ((i : Int) + (n : Int)) = jj := by rw [hjj]; unfold wrap64; omega
        have p18 : (0 ≤ jj) = True := eq_true (by omega)
        have q18 : (jj < (s.size : Int)) = True := eq_true (by omega)
        have hx18 : ∀ (h : jj.toNat < s.size), ((s[jj.toNat]'h).toNat : Int) = bt s jj := fun h => by unfold bt; rw [dif_pos h]
        by_cases h3 : 128 ≤ bt s jj
        · have e4 : decide (128 ≤ bt s jj) = true := decide_eq_true h3
          have hnext : cntF s i (10 - (n + 1)) (n + 1) = cntF s i 10 0 := by
            have := HC.out
            rw [show 10 - n = (10 - (n + 1)) + 1 by omega] at this
            rw [← this]
            conv => rhs; unfold cntF
            rw [if_pos ⟨h2, by rw [← hjj]; exact h3⟩]
          have HJ := Lib.hid hjj
          have HN := Lib.hid hnext
          clear hjj hnext h3
          go_wp2
          have q0 := cellS56_0 HR.out.a.1
          have q1 := cellS56_1 HR.out.a.1
          go_quiet ((go_at_call 34; exact Calls.quiet_of (Left_q g s i _ hi hs HR.out.a.1)))
          go_wp2
          go_roundw
          case rel => exact ⟨n + 1, by omega, by go_num, HR.out.drewN _, HN.out⟩
          case measure => simp [intOf]; omega
        · have h6 : cntF s i (10 - (n + 1) + 1) n = n := by unfold cntF; rw [if_neg (fun h => h3 (by rw [hjj]; exact h.2))]
          have h7 : n = cntF s i 10 0 := by have := HC.out; rw [show 10 - n = (10 - (n + 1)) + 1 by omega, h6] at this; exact this
          have e4 : decide (128 ≤ bt s jj) = false := decide_eq_false h3
          have e2' : decide (((s.size - i : Nat) : Int) ≤ (n : Int)) = false := decide_eq_false (by omega)
          have HCN : Go.RowKit.Hid (codeAt s i (n + 1) 0 = C) := Lib.hid (by rw [h7]; exact HCC.out)
          have H7 := Lib.hid h7
          clear hjj h3 h6 h7
          have q0 := cellS56_0 HR.out.a.1
          have q1 := cellS56_1 HR.out.a.1
          go_wp2
          go_quiet ((go_at_call 34; exact Calls.quiet_of (Left_q g s i _ hi hs HR.out.a.1)))
          go_wp2_with (go_at_call 34; refine (Left_q g s i _ hi hs (HR.out.drewN _).a.1).mono ?_; rintro e wx ⟨rfl, mx, rfl⟩)
          clear q0 q1
          go_loopw [4, 5] (fun c v wr2 => ∃ (m : Nat) (cc : Int), m ≤ n + 1 ∧ c = .int .u64 cc ∧ v = .int .i64 ((m : Int) - 1) ∧ RJ w0 w g s i false wr2 ∧ codeAt s i m cc = C) (fun _ v _ => (intOf v + 1).toNat)
          case atStart => exact ⟨n + 1, 0, by omega, rfl, by simp, by first | exact (HR.out.drewN _) | exact (HR.out.drewN _).drewN _, HCN.out⟩
          case round =>
            obtain ⟨m, cc, hm, rfl, rfl, hR2, hc2⟩ := hrel
            have HR2 := Lib.hid hR2
            clear hR2
            cases m with
            | zero =>
              have hcC : cc = C := hc2
              subst hcC
              clear hc2 e3 e3' p18 q18 hx18 e4 e2 e2'
              have q0 := cellS56_0 HR2.out.a.1
              have q1 := cellS56_1 HR2.out.a.1
              have hr := HR0.out
              obtain ⟨Q, j1, j2, hQ, hj2, f1, f2, f2', f2u, g1, g1', g2, g2', g3, g4, g5, g6, g7⟩ := zero_facts cc hr i n s.size h2 hs
              obtain ⟨f3, f4'⟩ := odd_facts cc hr Q hQ
              by_cases hodd : cc.tmod 2 = 1
              · have hb : (cc.tmod 2 == 1) = true := beq_iff_eq.mpr hodd
                obtain ⟨o, ho⟩ : ∃ o, o = outF cc := ⟨_, rfl⟩
                have ho2 : o = -Q - 1 := by rw [ho]; unfold outF; rw [if_pos (by rw [← Int.tmod_eq_emod_of_nonneg hr.1]; exact hodd), hQ]
                have f4 := f4'.trans ho2.symm
                clear f4'
                have HO := Lib.hid ho
                have HE' : Go.RowKit.Hid (abugidaref02_Int.f k o = some e) := Lib.hid (by rw [ho]; exact HE.out)
                have hgl : (⟨g, 0, none⟩ : Addr).block < wr.heap.size := HR2.out.a.lt
                have HJ2 := Lib.hid hj2
                clear ho ho2 hj2 hQ hr
                have hwr : Go.RowKit.Hid (RJ w0 w g s (i : Int) false wr.drew) := Lib.hid ⟨HR2.out.1.drew, below_drew1 HR2.out.2.1, HR2.out.2.2⟩
                go_wp2
                refine start_ (n := 19) (S := fun w' => w'.cell? ⟨g, 0, none⟩ = some (.string s) ∧ w'.cell? ⟨g, 1, none⟩ = some (.int .i64 (i : Int))) (ds := []) #[false, false, false, false, false, false, false, false, false, false, false, false, false, false, false, false, false, false, false] (by kernel_rfl) rfl rfl ⟨q0, q1⟩ (fun hHeld => ?_)
                refine pure_ (i := 0) (N := some 71) (v := ?_) (a' := ?_) #[true, false, false, false, false, false, false, false, false, false, false, false, false, false, false, false, false, false, false] rfl rfl (by kernel_rfl) (fun _ _ _ h => h) (Or.inl ⟨by rfl, ?_⟩) ?_ ?_
                rotate_left
                · intro w'
                  go_simp
                  with_reducible rfl
                rotate_left
                · simp only [Act.put, List.setIfInBounds_toArray, List.set_cons_zero, List.set_cons_succ, i64_w, i32_w]
                  rfl
                refine pure_ (i := 2) (N := some 73) (v := ?_) (a' := ?_) #[true, false, true, false, false, false, false, false, false, false, false, false, false, false, false, false, false, false, false] rfl rfl (by kernel_rfl) (fun _ _ _ h => h) (Or.inl ⟨by rfl, ?_⟩) ?_ ?_
                rotate_left
                · intro w'
                  go_simp
                  with_reducible rfl
                rotate_left
                · simp only [Act.put, List.setIfInBounds_toArray, List.set_cons_zero, List.set_cons_succ, i64_w, i32_w]
                  rfl
                refine pure_ (i := 3) (N := some 74) (v := ?_) (a' := ?_) #[true, false, true, true, false, false, false, false, false, false, false, false, false, false, false, false, false, false, false] rfl rfl (by kernel_rfl) (fun _ _ _ h => h) (Or.inl ⟨by rfl, ?_⟩) ?_ ?_
                rotate_left
                · intro w'
                  go_simp
                  with_reducible rfl
                rotate_left
                · simp only [Act.put, List.setIfInBounds_toArray, List.set_cons_zero, List.set_cons_succ, i64_w, i32_w]
                  rfl
                refine pure_ (i := 4) (N := some 75) (v := ?_) (a' := ?_) #[true, false, true, true, true, false, false, false, false, false, false, false, false, false, false, false, false, false, false] rfl rfl (by kernel_rfl) (fun _ _ _ h => h) (Or.inl ⟨by rfl, ?_⟩) ?_ ?_
                rotate_left
                · intro w'
                  go_simp
                  with_reducible rfl
                rotate_left
                · simp only [Act.put, List.setIfInBounds_toArray, List.set_cons_zero, List.set_cons_succ, i64_w, i32_w]
                  rfl
                refine pure_ (i := 6) (N := some 77) (v := ?_) (a' := ?_) #[true, false, true, true, true, false, true, false, false, false, false, false, false, false, false, false, false, false, false] rfl rfl (by kernel_rfl) (fun _ _ _ h => h) (Or.inl ⟨by rfl, ?_⟩) ?_ ?_
                rotate_left
                · intro w'
                  go_simp
                  with_reducible rfl
                rotate_left
                · simp only [Act.put, List.setIfInBounds_toArray, List.set_cons_zero, List.set_cons_succ, i64_w, i32_w]
                  rfl
                refine pure_ (i := 7) (N := some 78) (v := ?_) (a' := ?_) #[true, false, true, true, true, false, true, true, false, false, false, false, false, false, false, false, false, false, false] rfl rfl (by kernel_rfl) (fun _ _ _ h => h) (Or.inl ⟨by rfl, ?_⟩) ?_ ?_
                rotate_left
                · intro w'
                  go_simp
                  with_reducible rfl
                rotate_left
                · simp only [Act.put, List.setIfInBounds_toArray, List.set_cons_zero, List.set_cons_succ, i64_w, i32_w]
                  rfl
                refine pure_ (i := 8) (N := some 79) (v := ?_) (a' := ?_) #[true, false, true, true, true, false, true, true, true, false, false, false, false, false, false, false, false, false, false] rfl rfl (by kernel_rfl) (fun _ _ _ h => h) (Or.inl ⟨by rfl, ?_⟩) ?_ ?_
                rotate_left
                · intro w'
                  go_simp
                  with_reducible rfl
                rotate_left
                · simp only [Act.put, List.setIfInBounds_toArray, List.set_cons_zero, List.set_cons_succ, i64_w, i32_w]
                  rfl
                refine pure_ (i := 10) (N := some 81) (v := ?_) (a' := ?_) #[true, false, true, true, true, false, true, true, true, false, true, false, false, false, false, false, false, false, false] rfl rfl (by kernel_rfl) (fun _ _ _ h => h) (Or.inl ⟨by rfl, ?_⟩) ?_ ?_
                rotate_left
                · intro w'
                  go_simp
                  with_reducible rfl
                rotate_left
                · simp only [Act.put, List.setIfInBounds_toArray, List.set_cons_zero, List.set_cons_succ, i64_w, i32_w]
                  rfl
                refine pure_ (i := 11) (N := some 82) (v := ?_) (a' := ?_) #[true, false, true, true, true, false, true, true, true, false, true, true, false, false, false, false, false, false, false] rfl rfl (by kernel_rfl) (fun _ _ _ h => h) (Or.inl ⟨by rfl, ?_⟩) ?_ ?_
                rotate_left
                · intro w'
                  go_simp
                  with_reducible rfl
                rotate_left
                · simp only [Act.put, List.setIfInBounds_toArray, List.set_cons_zero, List.set_cons_succ, i64_w, i32_w]
                  rfl
                refine pure_ (i := 12) (N := some 83) (v := ?_) (a' := ?_) #[true, false, true, true, true, false, true, true, true, false, true, true, true, false, false, false, false, false, false] rfl rfl (by kernel_rfl) (fun _ _ _ h => h) (Or.inl ⟨by rfl, ?_⟩) ?_ ?_
                rotate_left
                · intro w'
                  go_simp
                  with_reducible rfl
                rotate_left
                · simp only [Act.put, List.setIfInBounds_toArray, List.set_cons_zero, List.set_cons_succ, i64_w, i32_w]
                  rfl
                refine pure_ (i := 14) (N := some 85) (v := ?_) (a' := ?_) #[true, false, true, true, true, false, true, true, true, false, true, true, true, false, true, false, false, false, false] rfl rfl (by kernel_rfl) (fun _ _ _ h => h) (Or.inl ⟨by rfl, ?_⟩) ?_ ?_
                rotate_left
                · intro w'
                  go_simp
                  with_reducible rfl
                rotate_left
                · simp only [Act.put, List.setIfInBounds_toArray, List.set_cons_zero, List.set_cons_succ, i64_w, i32_w]
                  rfl
                refine take_ (i := 5) (N := some 76) (v := ?_) (a' := ?_) #[true, false, true, true, true, true, true, true, true, false, true, true, true, false, true, false, false, false, false] rfl rfl (by kernel_rfl) (fun _ _ _ h => h) (Or.inl ⟨by rfl, ?_⟩) hHeld ?_ ?_
                rotate_left
                · rintro w' ⟨s0, s1⟩
                  go_simp
                  with_reducible rfl
                rotate_left
                · simp only [Act.put, List.setIfInBounds_toArray, List.set_cons_zero, List.set_cons_succ, i64_w, i32_w]
                  rfl
                refine take_ (i := 9) (N := some 80) (v := ?_) (a' := ?_) #[true, false, true, true, true, true, true, true, true, true, true, true, true, false, true, false, false, false, false] rfl rfl (by kernel_rfl) (fun _ _ _ h => h) (Or.inl ⟨by rfl, ?_⟩) hHeld ?_ ?_
                rotate_left
                · rintro w' ⟨s0, s1⟩
                  go_simp
                  with_reducible rfl
                rotate_left
                · simp only [Act.put, List.setIfInBounds_toArray, List.set_cons_zero, List.set_cons_succ, i64_w, i32_w]
                  rfl
                refine take_ (i := 13) (N := some 84) (v := ?_) (a' := ?_) #[true, false, true, true, true, true, true, true, true, true, true, true, true, true, true, false, false, false, false] rfl rfl (by kernel_rfl) (fun _ _ _ h => h) (Or.inl ⟨by rfl, ?_⟩) hHeld ?_ ?_
                rotate_left
                · rintro w' ⟨s0, s1⟩
                  go_simp
                  with_reducible rfl
                rotate_left
                · simp only [Act.put, List.setIfInBounds_toArray, List.set_cons_zero, List.set_cons_succ, i64_w, i32_w]
                  rfl
                refine pure_ (i := 15) (N := some 86) (v := ?_) (a' := ?_) #[true, false, true, true, true, true, true, true, true, true, true, true, true, true, true, true, false, false, false] rfl rfl (by kernel_rfl) (fun _ _ _ h => h) (Or.inl ⟨by rfl, ?_⟩) ?_ ?_
                rotate_left
                · intro w'
                  go_simp
                  with_reducible rfl
                rotate_left
                · simp only [Act.put, List.setIfInBounds_toArray, List.set_cons_zero, List.set_cons_succ, i64_w, i32_w]
                  rfl
                refine pure_ (i := 16) (N := some 87) (v := ?_) (a' := ?_) #[true, false, true, true, true, true, true, true, true, true, true, true, true, true, true, true, true, false, false] rfl rfl (by kernel_rfl) (fun _ _ _ h => h) (Or.inl ⟨by rfl, ?_⟩) ?_ ?_
                rotate_left
                · intro w'
                  go_simp
                  with_reducible rfl
                rotate_left
                · simp only [Act.put, List.setIfInBounds_toArray, List.set_cons_zero, List.set_cons_succ, i64_w, i32_w]
                  rfl
                refine pure_ (i := 17) (N := some 88) (v := ?_) (a' := ?_) #[true, false, true, true, true, true, true, true, true, true, true, true, true, true, true, true, true, true, false] rfl rfl (by kernel_rfl) (fun _ _ _ h => h) (Or.inl ⟨by rfl, ?_⟩) ?_ ?_
                rotate_left
                · intro w'
                  go_simp
                  with_reducible rfl
                rotate_left
                · simp only [Act.put, List.setIfInBounds_toArray, List.set_cons_zero, List.set_cons_succ, i64_w, i32_w]
                  rfl
                refine one_ (i := 1) (N := some 72) #[true, true, true, true, true, true, true, true, true, true, true, true, true, true, true, true, true, true, false] rfl rfl (by kernel_rfl) (by decide) (fun K hK => ?_)
                refine goes_ Try.func14 (by kernel_rfl) rfl #[.int .i64 o] (by rfl) rfl rfl (by simp only [List.map_toArray, List.map_cons, List.map_nil]; rfl) ?_
                with_reducible refine (abugidaref02_Int.calls k o e _ HE'.out).mono ?_
                rintro x wx ⟨rfl, hbx⟩
                refine ⟨_, rfl, ?_⟩
                have HBX := Lib.hid hbx
                clear hbx
                refine hK.out _ _ ⟨(HBX.out.cell hgl).trans q0, (HBX.out.cell hgl).trans q1⟩ (fun hHeld => ?_)
                clear hK K
                refine norm_ (a' := ?_) ?_ ?_
                rotate_left
                · show Act.put _ (some 72) _ = _
                  simp only [Act.put, List.setIfInBounds_toArray, List.set_cons_zero, List.set_cons_succ, i64_w, i32_w]
                  rfl
                refine pure_ (i := 18) (N := some 89) (v := ?_) (a' := ?_) #[true, true, true, true, true, true, true, true, true, true, true, true, true, true, true, true, true, true, true] rfl rfl (by kernel_rfl) (fun _ _ _ h => h) (Or.inl ⟨by rfl, ?_⟩) ?_ ?_
                rotate_left
                · intro w'
                  go_simp
                  with_reducible rfl
                rotate_left
                · simp only [Act.put, List.setIfInBounds_toArray, List.set_cons_zero, List.set_cons_succ, i64_w, i32_w]
                  rfl
                refine done_ (by kernel_rfl) ?_
                have HRx := Lib.hid (hwr.out.grow hB.size HBX.out)
                by_cases he : e.toList = (s.extract i (i + n + 1)).toList
                · have hbq : (e.toList == (s.extract i (i + n + 1)).toList) = true := beq_iff_eq.mpr he
                  have hbq2 : (!(e.toList == (s.extract i (i + n + 1)).toList)) = false := by rw [hbq]; rfl
                  have qf : wx.frozen? ⟨g, 1, none⟩ = false := by simp [World.frozen?, HRx.out.a.1]
                  have HEQ := Lib.hid he
                  clear he
                  simp only [hbq2]
                  have q0 := cellS56_0 HRx.out.a.1
                  have q1 := cellS56_1 HRx.out.a.1
                  go_wp2
                  go_ret
                  have hr := HRES.out
                  rw [← H7.out, if_pos HEQ.out, ← HO.out, ← HJ2.out] at hr
                  injection hr with h1 h2
                  injection h2 with h2 h3
                  subst h1 h2 h3
                  exact ⟨rfl, HRx.out.set j2⟩
                · have hbq : (e.toList == (s.extract i (i + n + 1)).toList) = false := beq_eq_false_iff_ne.mpr he
                  have hbq2 : (!(e.toList == (s.extract i (i + n + 1)).toList)) = true := by rw [hbq]; rfl
                  have HEQ := Lib.hid he
                  clear he
                  simp only [hbq2]
                  go_wp2_with (go_at_call 40; with_reducible refine (abugidaref02_Reader_fail.calls g s (i : Int) false s (i : Int) true w0 _ HRx.out.a HRx.out.d rfl).mono ?_; rintro x wy ⟨rfl, hiy, hby, hky⟩)
                  go_ret
                  have hr := HRES.out
                  rw [← H7.out, if_neg HEQ.out] at hr
                  injection hr with h1 h2
                  injection h2 with h2 h3
                  subst h1 h2 h3
                  exact ⟨rfl, HRx.out.step hiy hby hky⟩
              · have hb : (cc.tmod 2 == 1) = false := beq_eq_false_iff_ne.mpr hodd
                obtain ⟨o, ho⟩ : ∃ o, o = outF cc := ⟨_, rfl⟩
                have ho2 : o = Q := by rw [ho]; unfold outF; rw [if_neg (by rw [← Int.tmod_eq_emod_of_nonneg hr.1]; exact hodd), hQ]
                subst ho2
                have HO := Lib.hid ho
                have HE' : Go.RowKit.Hid (abugidaref02_Int.f k o = some e) := Lib.hid (by rw [ho]; exact HE.out)
                have hgl : (⟨g, 0, none⟩ : Addr).block < wr.heap.size := HR2.out.a.lt
                have HJ2 := Lib.hid hj2
                clear ho hj2 hQ hr
                have hwr : Go.RowKit.Hid (RJ w0 w g s (i : Int) false wr.drew) := Lib.hid ⟨HR2.out.1.drew, below_drew1 HR2.out.2.1, HR2.out.2.2⟩
                go_wp2
                refine start_ (n := 19) (S := fun w' => w'.cell? ⟨g, 0, none⟩ = some (.string s) ∧ w'.cell? ⟨g, 1, none⟩ = some (.int .i64 (i : Int))) (ds := []) #[false, false, false, false, false, false, false, false, false, false, false, false, false, false, false, false, false, false, false] (by kernel_rfl) rfl rfl ⟨q0, q1⟩ (fun hHeld => ?_)
                refine pure_ (i := 0) (N := some 71) (v := ?_) (a' := ?_) #[true, false, false, false, false, false, false, false, false, false, false, false, false, false, false, false, false, false, false] rfl rfl (by kernel_rfl) (fun _ _ _ h => h) (Or.inl ⟨by rfl, ?_⟩) ?_ ?_
                rotate_left
                · intro w'
                  go_simp
                  with_reducible rfl
                rotate_left
                · simp only [Act.put, List.setIfInBounds_toArray, List.set_cons_zero, List.set_cons_succ, i64_w, i32_w]
                  rfl
                refine pure_ (i := 2) (N := some 73) (v := ?_) (a' := ?_) #[true, false, true, false, false, false, false, false, false, false, false, false, false, false, false, false, false, false, false] rfl rfl (by kernel_rfl) (fun _ _ _ h => h) (Or.inl ⟨by rfl, ?_⟩) ?_ ?_
                rotate_left
                · intro w'
                  go_simp
                  with_reducible rfl
                rotate_left
                · simp only [Act.put, List.setIfInBounds_toArray, List.set_cons_zero, List.set_cons_succ, i64_w, i32_w]
                  rfl
                refine pure_ (i := 3) (N := some 74) (v := ?_) (a' := ?_) #[true, false, true, true, false, false, false, false, false, false, false, false, false, false, false, false, false, false, false] rfl rfl (by kernel_rfl) (fun _ _ _ h => h) (Or.inl ⟨by rfl, ?_⟩) ?_ ?_
                rotate_left
                · intro w'
                  go_simp
                  with_reducible rfl
                rotate_left
                · simp only [Act.put, List.setIfInBounds_toArray, List.set_cons_zero, List.set_cons_succ, i64_w, i32_w]
                  rfl
                refine pure_ (i := 4) (N := some 75) (v := ?_) (a' := ?_) #[true, false, true, true, true, false, false, false, false, false, false, false, false, false, false, false, false, false, false] rfl rfl (by kernel_rfl) (fun _ _ _ h => h) (Or.inl ⟨by rfl, ?_⟩) ?_ ?_
                rotate_left
                · intro w'
                  go_simp
                  with_reducible rfl
                rotate_left
                · simp only [Act.put, List.setIfInBounds_toArray, List.set_cons_zero, List.set_cons_succ, i64_w, i32_w]
                  rfl
                refine pure_ (i := 6) (N := some 77) (v := ?_) (a' := ?_) #[true, false, true, true, true, false, true, false, false, false, false, false, false, false, false, false, false, false, false] rfl rfl (by kernel_rfl) (fun _ _ _ h => h) (Or.inl ⟨by rfl, ?_⟩) ?_ ?_
                rotate_left
                · intro w'
                  go_simp
                  with_reducible rfl
                rotate_left
                · simp only [Act.put, List.setIfInBounds_toArray, List.set_cons_zero, List.set_cons_succ, i64_w, i32_w]
                  rfl
                refine pure_ (i := 7) (N := some 78) (v := ?_) (a' := ?_) #[true, false, true, true, true, false, true, true, false, false, false, false, false, false, false, false, false, false, false] rfl rfl (by kernel_rfl) (fun _ _ _ h => h) (Or.inl ⟨by rfl, ?_⟩) ?_ ?_
                rotate_left
                · intro w'
                  go_simp
                  with_reducible rfl
                rotate_left
                · simp only [Act.put, List.setIfInBounds_toArray, List.set_cons_zero, List.set_cons_succ, i64_w, i32_w]
                  rfl
                refine pure_ (i := 8) (N := some 79) (v := ?_) (a' := ?_) #[true, false, true, true, true, false, true, true, true, false, false, false, false, false, false, false, false, false, false] rfl rfl (by kernel_rfl) (fun _ _ _ h => h) (Or.inl ⟨by rfl, ?_⟩) ?_ ?_
                rotate_left
                · intro w'
                  go_simp
                  with_reducible rfl
                rotate_left
                · simp only [Act.put, List.setIfInBounds_toArray, List.set_cons_zero, List.set_cons_succ, i64_w, i32_w]
                  rfl
                refine pure_ (i := 10) (N := some 81) (v := ?_) (a' := ?_) #[true, false, true, true, true, false, true, true, true, false, true, false, false, false, false, false, false, false, false] rfl rfl (by kernel_rfl) (fun _ _ _ h => h) (Or.inl ⟨by rfl, ?_⟩) ?_ ?_
                rotate_left
                · intro w'
                  go_simp
                  with_reducible rfl
                rotate_left
                · simp only [Act.put, List.setIfInBounds_toArray, List.set_cons_zero, List.set_cons_succ, i64_w, i32_w]
                  rfl
                refine pure_ (i := 11) (N := some 82) (v := ?_) (a' := ?_) #[true, false, true, true, true, false, true, true, true, false, true, true, false, false, false, false, false, false, false] rfl rfl (by kernel_rfl) (fun _ _ _ h => h) (Or.inl ⟨by rfl, ?_⟩) ?_ ?_
                rotate_left
                · intro w'
                  go_simp
                  with_reducible rfl
                rotate_left
                · simp only [Act.put, List.setIfInBounds_toArray, List.set_cons_zero, List.set_cons_succ, i64_w, i32_w]
                  rfl
                refine pure_ (i := 12) (N := some 83) (v := ?_) (a' := ?_) #[true, false, true, true, true, false, true, true, true, false, true, true, true, false, false, false, false, false, false] rfl rfl (by kernel_rfl) (fun _ _ _ h => h) (Or.inl ⟨by rfl, ?_⟩) ?_ ?_
                rotate_left
                · intro w'
                  go_simp
                  with_reducible rfl
                rotate_left
                · simp only [Act.put, List.setIfInBounds_toArray, List.set_cons_zero, List.set_cons_succ, i64_w, i32_w]
                  rfl
                refine pure_ (i := 14) (N := some 85) (v := ?_) (a' := ?_) #[true, false, true, true, true, false, true, true, true, false, true, true, true, false, true, false, false, false, false] rfl rfl (by kernel_rfl) (fun _ _ _ h => h) (Or.inl ⟨by rfl, ?_⟩) ?_ ?_
                rotate_left
                · intro w'
                  go_simp
                  with_reducible rfl
                rotate_left
                · simp only [Act.put, List.setIfInBounds_toArray, List.set_cons_zero, List.set_cons_succ, i64_w, i32_w]
                  rfl
                refine take_ (i := 5) (N := some 76) (v := ?_) (a' := ?_) #[true, false, true, true, true, true, true, true, true, false, true, true, true, false, true, false, false, false, false] rfl rfl (by kernel_rfl) (fun _ _ _ h => h) (Or.inl ⟨by rfl, ?_⟩) hHeld ?_ ?_
                rotate_left
                · rintro w' ⟨s0, s1⟩
                  go_simp
                  with_reducible rfl
                rotate_left
                · simp only [Act.put, List.setIfInBounds_toArray, List.set_cons_zero, List.set_cons_succ, i64_w, i32_w]
                  rfl
                refine take_ (i := 9) (N := some 80) (v := ?_) (a' := ?_) #[true, false, true, true, true, true, true, true, true, true, true, true, true, false, true, false, false, false, false] rfl rfl (by kernel_rfl) (fun _ _ _ h => h) (Or.inl ⟨by rfl, ?_⟩) hHeld ?_ ?_
                rotate_left
                · rintro w' ⟨s0, s1⟩
                  go_simp
                  with_reducible rfl
                rotate_left
                · simp only [Act.put, List.setIfInBounds_toArray, List.set_cons_zero, List.set_cons_succ, i64_w, i32_w]
                  rfl
                refine take_ (i := 13) (N := some 84) (v := ?_) (a' := ?_) #[true, false, true, true, true, true, true, true, true, true, true, true, true, true, true, false, false, false, false] rfl rfl (by kernel_rfl) (fun _ _ _ h => h) (Or.inl ⟨by rfl, ?_⟩) hHeld ?_ ?_
                rotate_left
                · rintro w' ⟨s0, s1⟩
                  go_simp
                  with_reducible rfl
                rotate_left
                · simp only [Act.put, List.setIfInBounds_toArray, List.set_cons_zero, List.set_cons_succ, i64_w, i32_w]
                  rfl
                refine pure_ (i := 15) (N := some 86) (v := ?_) (a' := ?_) #[true, false, true, true, true, true, true, true, true, true, true, true, true, true, true, true, false, false, false] rfl rfl (by kernel_rfl) (fun _ _ _ h => h) (Or.inl ⟨by rfl, ?_⟩) ?_ ?_
                rotate_left
                · intro w'
                  go_simp
                  with_reducible rfl
                rotate_left
                · simp only [Act.put, List.setIfInBounds_toArray, List.set_cons_zero, List.set_cons_succ, i64_w, i32_w]
                  rfl
                refine pure_ (i := 16) (N := some 87) (v := ?_) (a' := ?_) #[true, false, true, true, true, true, true, true, true, true, true, true, true, true, true, true, true, false, false] rfl rfl (by kernel_rfl) (fun _ _ _ h => h) (Or.inl ⟨by rfl, ?_⟩) ?_ ?_
                rotate_left
                · intro w'
                  go_simp
                  with_reducible rfl
                rotate_left
                · simp only [Act.put, List.setIfInBounds_toArray, List.set_cons_zero, List.set_cons_succ, i64_w, i32_w]
                  rfl
                refine pure_ (i := 17) (N := some 88) (v := ?_) (a' := ?_) #[true, false, true, true, true, true, true, true, true, true, true, true, true, true, true, true, true, true, false] rfl rfl (by kernel_rfl) (fun _ _ _ h => h) (Or.inl ⟨by rfl, ?_⟩) ?_ ?_
                rotate_left
                · intro w'
                  go_simp
                  with_reducible rfl
                rotate_left
                · simp only [Act.put, List.setIfInBounds_toArray, List.set_cons_zero, List.set_cons_succ, i64_w, i32_w]
                  rfl
                refine one_ (i := 1) (N := some 72) #[true, true, true, true, true, true, true, true, true, true, true, true, true, true, true, true, true, true, false] rfl rfl (by kernel_rfl) (by decide) (fun K hK => ?_)
                refine goes_ Try.func14 (by kernel_rfl) rfl #[.int .i64 o] (by rfl) rfl rfl (by simp only [List.map_toArray, List.map_cons, List.map_nil]; rfl) ?_
                with_reducible refine (abugidaref02_Int.calls k o e _ HE'.out).mono ?_
                rintro x wx ⟨rfl, hbx⟩
                refine ⟨_, rfl, ?_⟩
                have HBX := Lib.hid hbx
                clear hbx
                refine hK.out _ _ ⟨(HBX.out.cell hgl).trans q0, (HBX.out.cell hgl).trans q1⟩ (fun hHeld => ?_)
                clear hK K
                refine norm_ (a' := ?_) ?_ ?_
                rotate_left
                · show Act.put _ (some 72) _ = _
                  simp only [Act.put, List.setIfInBounds_toArray, List.set_cons_zero, List.set_cons_succ, i64_w, i32_w]
                  rfl
                refine pure_ (i := 18) (N := some 89) (v := ?_) (a' := ?_) #[true, true, true, true, true, true, true, true, true, true, true, true, true, true, true, true, true, true, true] rfl rfl (by kernel_rfl) (fun _ _ _ h => h) (Or.inl ⟨by rfl, ?_⟩) ?_ ?_
                rotate_left
                · intro w'
                  go_simp
                  with_reducible rfl
                rotate_left
                · simp only [Act.put, List.setIfInBounds_toArray, List.set_cons_zero, List.set_cons_succ, i64_w, i32_w]
                  rfl
                refine done_ (by kernel_rfl) ?_
                have HRx := Lib.hid (hwr.out.grow hB.size HBX.out)
                by_cases he : e.toList = (s.extract i (i + n + 1)).toList
                · have hbq : (e.toList == (s.extract i (i + n + 1)).toList) = true := beq_iff_eq.mpr he
                  have hbq2 : (!(e.toList == (s.extract i (i + n + 1)).toList)) = false := by rw [hbq]; rfl
                  have qf : wx.frozen? ⟨g, 1, none⟩ = false := by simp [World.frozen?, HRx.out.a.1]
                  have HEQ := Lib.hid he
                  clear he
                  simp only [hbq2]
                  have q0 := cellS56_0 HRx.out.a.1
                  have q1 := cellS56_1 HRx.out.a.1
                  go_wp2
                  go_ret
                  have hr := HRES.out
                  rw [← H7.out, if_pos HEQ.out, ← HO.out, ← HJ2.out] at hr
                  injection hr with h1 h2
                  injection h2 with h2 h3
                  subst h1 h2 h3
                  exact ⟨rfl, HRx.out.set j2⟩
                · have hbq : (e.toList == (s.extract i (i + n + 1)).toList) = false := beq_eq_false_iff_ne.mpr he
                  have hbq2 : (!(e.toList == (s.extract i (i + n + 1)).toList)) = true := by rw [hbq]; rfl
                  have HEQ := Lib.hid he
                  clear he
                  simp only [hbq2]
                  go_wp2_with (go_at_call 40; with_reducible refine (abugidaref02_Reader_fail.calls g s (i : Int) false s (i : Int) true w0 _ HRx.out.a HRx.out.d rfl).mono ?_; rintro x wy ⟨rfl, hiy, hby, hky⟩)
                  go_ret
                  have hr := HRES.out
                  rw [← H7.out, if_neg HEQ.out] at hr
                  injection hr with h1 h2
                  injection h2 with h2 h3
                  subst h1 h2 h3
                  exact ⟨rfl, HRx.out.step hiy hby hky⟩
            | succ m =>
              obtain ⟨j2, hj2⟩ : ∃ j2 : Int, j2 = ((i + m : Nat) : Int) := ⟨_, rfl⟩
              have f0 : ((m + 1 : Nat) : Int) - 1 = (m : Int) := by omega
              rw [f0]
              have f1 : decide (0 ≤ (m : Int)) = true := decide_eq_true (by omega)
              have f3 : IntKind.i64.wrap ((i : Int) + (m : Int)) = j2 := by rw [hj2, IntKind.wrap_i64]; omega
              have f3' : wrap64 ((i : Int) + (m : Int)) = j2 := by rw [hj2]; unfold wrap64; omega
              have f4 : (0 ≤ j2) = True := eq_true (nn_aux hj2)
              have f5 : (j2 < (s.size : Int)) = True := eq_true (by rw [hj2]; exact lt_aux hm h2)
              have fx : ∀ (h : j2.toNat < s.size), ((s[j2.toNat]'h).toNat : Int) = bt s j2 := fun h => by unfold bt; rw [dif_pos h]
              have HC2 := Lib.hid hc2
              have HJ2 := Lib.hid hj2
              clear hc2 hj2 f0
              have q0 := cellS56_0 HR2.out.a.1
              have q1 := cellS56_1 HR2.out.a.1
              go_wp2
              go_quiet (fail)
              go_wp2
              go_roundw
              case rel =>
                clear f1 f3 f3' f4 f5 fx e3 e3' p18 q18 hx18 e1 e1' e2 e2' e4
                refine ⟨m, _, by omega, rfl, rfl, HR2.out.drewN _, ?_⟩
                have hc3 := HC2.out
                unfold codeAt at hc3
                rw [← HJ2.out] at hc3
                rw [Int.tmod_eq_emod_of_nonneg (bt_nonneg s j2)]
                exact hc3
              case measure => simp [intOf]
      · have := HC.out
        rw [show 10 - n = (10 - (n + 1)) + 1 by omega] at this
        have h6 : cntF s i (10 - (n + 1) + 1) n = n := by unfold cntF; rw [if_neg (fun h => h2 h.1)]
        rw [h6] at this
        have hg := HGOOD.out
        omega
    · have := HC.out
      have hg := HGOOD.out
      rw [show 10 - n = 0 by omega] at this
      have h6 : cntF s i 0 n = n := rfl
      rw [h6] at this
      omega
theorem Left_qb (g : Nat) (s : ByteArray) (i : Int) (w : World) (h : w.heap[g]? = some (.cells #[.string s, .int .i64 i, .bool true] 56 (0, 0))) :
    Calls Try.prog 34 #[.pointer (some ⟨g, 0, none⟩)] w fun e w' => e = .returned (.int .i64 0) ∧ ∃ m, w' = w.drewN m := by
  have HH := Lib.hid h
  clear h
  go_enter Try.func34, Try.ntmps34
  go_wp2_with (go_at_call 35; refine (Bad_q g s i true _ HH.out).mono ?_; rintro e w1 ⟨rfl, m1, rfl⟩)
  go_ret
  exact ⟨rfl, _, rfl⟩
set_option maxHeartbeats 4000000 in
theorem ref_bad (g : Nat) (s : ByteArray) (i : Int) (w0 w : World) (hI : IsS56 w0 w g s i true) (hB : Below w0.heap.size w0 w) :
    Calls Try.prog 25 #[.pointer (some ⟨g, 0, none⟩)] w fun x w' => x = .returned (.int .i64 0) ∧ RJ w0 w g s i true w' := by
  have HI := Lib.hid (show RJ w0 w g s i true w from ⟨hI, hB, KeepBut.refl _ _ _⟩)
  clear hI
  go_enter Try.func25, Try.ntmps25
  go_wp2
  go_loopw [3] (fun v wr => v = .int .i64 0 ∧ RJ w0 w g s i true wr) (fun v _ => 10 - (intOf v).toNat)
  case atStart => exact ⟨rfl, HI.out⟩
  case round =>
    obtain ⟨rfl, hR⟩ := hrel
    have HR := Lib.hid hR
    clear hR
    have q0 := cellS56_0 HR.out.a.1
    have q1 := cellS56_1 HR.out.a.1
    go_wp2
    go_quiet ((go_at_call 34; exact Calls.quiet_of (Left_qb g s i _ HR.out.a.1)))
    go_wp2_with (first
      | (go_at_call 34; refine (Left_qb g s i _ (HR.out.drewN _).a.1).mono ?_; rintro e wx ⟨rfl, mx, rfl⟩)
      | (go_at_call 40; with_reducible refine (abugidaref02_Reader_fail.calls g s i true s i true w0 _ (HR.out.drewN _).a (HR.out.drewN _).d rfl).mono ?_; rintro e wy ⟨rfl, hiy, hby, hky⟩))
    go_ret
    exact ⟨rfl, (HR.out.drewN _).step hiy hby hky⟩
/-- What the reference's reader reads as a number. -/
def abugidaref02_Reader_Int.f (k : Nat) (s : ByteArray) (i : Int) (b : Bool) : Option (Int × ByteArray × Int × Bool) :=
  if b = true then some (0, s, i, true)
  else if 0 ≤ i ∧ i ≤ (s.size : Int) ∧ s.size ≤ 1152921504606846976 then
    if cntF s i.toNat 10 0 = 10 ∨ s.size - i.toNat ≤ cntF s i.toNat 10 0 then some (0, s, i, true)
    else (abugidaref02_Int.f k (outF (codeAt s i.toNat (cntF s i.toNat 10 0 + 1) 0))).bind fun e =>
      if e.toList = (s.extract i.toNat (i.toNat + cntF s i.toNat 10 0 + 1)).toList then some (outF (codeAt s i.toNat (cntF s i.toNat 10 0 + 1) 0), s, ((i.toNat + cntF s i.toNat 10 0 + 1 : Nat) : Int), false) else some (0, s, i, true)
  else none
theorem abugidaref02_Reader_Int.mono : ∀ s0_0 s0_1 s0_2 k, LeO (abugidaref02_Reader_Int.f k s0_0 s0_1 s0_2) (abugidaref02_Reader_Int.f (k + 1) s0_0 s0_1 s0_2) := by
  intro s i b k r hr
  unfold abugidaref02_Reader_Int.f at hr ⊢
  by_cases c1 : b = true
  · rw [if_pos c1] at hr ⊢; exact hr
  · rw [if_neg c1] at hr ⊢
    by_cases c2 : 0 ≤ i ∧ i ≤ (s.size : Int) ∧ s.size ≤ 1152921504606846976
    · rw [if_pos c2] at hr ⊢
      by_cases c3 : cntF s i.toNat 10 0 = 10 ∨ s.size - i.toNat ≤ cntF s i.toNat 10 0
      · rw [if_pos c3] at hr ⊢; exact hr
      · rw [if_neg c3] at hr ⊢
        obtain ⟨e, he, hr⟩ := Option.bind_eq_some_iff.1 hr
        rw [abugidaref02_Int.mono _ k e he]
        exact hr
    · rw [if_neg c2] at hr; cases hr
theorem cntF_le (s : ByteArray) (i : Nat) : ∀ f n, n ≤ cntF s i f n ∧ cntF s i f n ≤ n + f
  | 0, n => ⟨Nat.le_refl _, Nat.le_refl _⟩
  | f + 1, n => by
    have := cntF_le s i f (n + 1)
    unfold cntF
    split <;> omega
theorem abugidaref02_Reader_Int.calls (k : Nat) (g : Nat) (s0_0 : ByteArray) (s0_1 : Int) (s0_2 : Bool) (r1 : Int) (r2 : ByteArray) (r3 : Int) (r4 : Bool) (w0 w : World) (hI : IsS56 w0 w g s0_0 s0_1 s0_2) (hB : Below w0.heap.size w0 w) (h : abugidaref02_Reader_Int.f k s0_0 s0_1 s0_2 = some (r1, r2, r3, r4)) :
    Calls Try.prog 25 #[.pointer (some ⟨g, 0, none⟩)] w fun e w' => e = .returned (.int .i64 r1) ∧ IsS56 w0 w' g r2 r3 r4 ∧ Below w0.heap.size w0 w' ∧ KeepBut w w' g none := by
  unfold abugidaref02_Reader_Int.f at h
  by_cases c1 : s0_2 = true
  · rw [if_pos c1] at h
    subst c1
    injection h with h
    injection h with h1 h
    injection h with h2 h
    injection h with h3 h4
    subst h1 h2 h3 h4
    refine (ref_bad g s0_0 s0_1 w0 w hI hB).mono ?_
    rintro e w' ⟨rfl, hR⟩
    exact ⟨rfl, hR⟩
  · rw [if_neg c1] at h
    obtain rfl : s0_2 = false := by cases s0_2 <;> simp_all
    by_cases c2 : 0 ≤ s0_1 ∧ s0_1 ≤ (s0_0.size : Int) ∧ s0_0.size ≤ 1152921504606846976
    · rw [if_pos c2] at h
      obtain ⟨i, rfl⟩ : ∃ i : Nat, s0_1 = (i : Int) := ⟨s0_1.toNat, by omega⟩
      simp only [Int.toNat_natCast] at h
      have hi : i ≤ s0_0.size := by omega
      by_cases c3 : cntF s0_0 i 10 0 = 10 ∨ s0_0.size - i ≤ cntF s0_0 i 10 0
      · rw [if_pos c3] at h
        injection h with h
        injection h with h1 h
        injection h with h2 h
        injection h with h3 h4
        subst h1 h2 h3 h4
        exact ref_walk k g s0_0 i hi c2.2.2 w0 w hI hB c3
      · rw [if_neg c3] at h
        obtain ⟨e, he, h⟩ := Option.bind_eq_some_iff.1 h
        have hc := cntF_le s0_0 i 10 0
        obtain ⟨⟨q1, q2, q3⟩, hq⟩ : ∃ q, (if e.toList = (s0_0.extract i (i + cntF s0_0 i 10 0 + 1)).toList then (outF (codeAt s0_0 i (cntF s0_0 i 10 0 + 1) 0), ((i + cntF s0_0 i 10 0 + 1 : Nat) : Int), false) else (0, (i : Int), true)) = q := ⟨_, rfl⟩
        refine (ref_good k g s0_0 i hi c2.2.2 w0 w hI hB _ (by omega) rfl e he q1 q2 q3 hq).mono ?_
        rintro x w' ⟨rfl, hR⟩
        have : some (q1, s0_0, q2, q3) = some (r1, r2, r3, r4) := by
          rw [← h]
          split at hq
          · rename_i hc2
            injection hq with h1 h2
            injection h2 with h2 h3
            subst h1 h2 h3
            exact (if_pos hc2).symm
          · rename_i hc2
            injection hq with h1 h2
            injection h2 with h2 h3
            subst h1 h2 h3
            exact (if_neg hc2).symm
        injection this with this
        injection this with h1 h
        injection h with h2 h
        injection h with h3 h4
        subst h1 h2 h3 h4
        exact ⟨rfl, hR⟩
    · rw [if_neg c2] at h; cases h
end Go.Proofs.Ytibdgpnedlpdbaa.Gw
