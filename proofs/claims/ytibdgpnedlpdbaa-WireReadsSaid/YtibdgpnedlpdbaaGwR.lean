/- The reference's Reader.Int: its walk (under way). -/
import Derived.Test.YtibdgpnedlpdbaaPbx6
set_option linter.unusedVariables false
set_option linter.unusedSimpArgs false
namespace Go.Proofs.Ytibdgpnedlpdbaa.Gw
open Go.RowKit Go.Proofs.YtibdgpnedlpdbaaW.PrintWords Go.Proofs.YtibdgpnedlpdbaaW.PrintLast Go.Proofs.YtibdgpnedlpdbaaW.PrintMore Go.Proofs.Ytibdgpnedlpdbaa.Pb
/-- How many bytes from i on are 128 or more, of those that are left; ten at most. -/
def cntF (s : ByteArray) (i : Nat) : Nat → Nat → Nat
  | 0, n => n
  | f + 1, n => if n < s.size - i ∧ 128 ≤ bt s ((i + n : Nat) : Int) then cntF s i f (n + 1) else n
def RJ (w0 w : World) (g : Nat) (s : ByteArray) (i : Int) (b : Bool) (W : World) : Prop := IsS56 w0 W g s i b ∧ Below w0.heap.size w0 W ∧ KeepBut w W g none
theorem RJ.a {w0 w W : World} {g : Nat} {s : ByteArray} {i : Int} {b : Bool} (h : RJ w0 w g s i b W) : IsS56 w0 W g s i b := h.1
theorem RJ.d {w0 w W : World} {g : Nat} {s : ByteArray} {i : Int} {b : Bool} (h : RJ w0 w g s i b W) : Below w0.heap.size w0 W := h.2.1
theorem RJ.step {w0 w W W' : World} {g : Nat} {s s' : ByteArray} {i i' : Int} {b b' : Bool} (h : RJ w0 w g s i b W) (h1 : IsS56 w0 W' g s' i' b') (h2 : Below w0.heap.size w0 W') (h3 : KeepBut W W' g none) : RJ w0 w g s' i' b' W' :=
  ⟨h1, h2, KeepBut.trans h.2.2 h3 (.inl rfl)⟩
theorem Left_ref (s : ByteArray) (i : Nat) (hi : i ≤ s.size) (hs : s.size ≤ 1152921504606846976) : abugidaref02_Reader_Left.f s (i : Int) false = some (((s.size - i : Nat) : Int), s, (i : Int), false) := by
  simp [abugidaref02_Reader_Left.f, abugidaref02_Reader_Bad.f]
  unfold wrap64
  omega
theorem Bad_q (g : Nat) (s : ByteArray) (i : Int) (b : Bool) (w : World) (h : w.heap[g]? = some (.cells #[.string s, .int .i64 i, .bool b] 56 (0, 0))) :
    Calls Try.prog 35 #[.pointer (some ⟨g, 0, none⟩)] w fun e w' => e = .returned (.bool b) ∧ ∃ m, w' = w.drewN m := by
  have q2 := cellS56_2 h
  have HH := Lib.hid h
  clear h
  go_enter Try.func35, Try.ntmps35
  go_wp2
  all_goals try go_quiet (fail)
  all_goals try go_wp2
  all_goals go_ret
  all_goals first | exact ⟨rfl, _, rfl⟩ | exact ⟨rfl, 0, rfl⟩
theorem Left_q (g : Nat) (s : ByteArray) (i : Nat) (w : World) (hi : i ≤ s.size) (hs : s.size ≤ 1152921504606846976) (h : w.heap[g]? = some (.cells #[.string s, .int .i64 i, .bool false] 56 (0, 0))) :
    Calls Try.prog 34 #[.pointer (some ⟨g, 0, none⟩)] w fun e w' => e = .returned (.int .i64 ((s.size - i : Nat) : Int)) ∧ ∃ m, w' = w.drewN m := by
  have q0 := cellS56_0 h
  have q1 := cellS56_1 h
  have e3 : wrap64 ((s.size : Int) - (i : Int)) = ((s.size - i : Nat) : Int) := by unfold wrap64; omega
  have HH := Lib.hid h
  clear h
  go_enter Try.func34, Try.ntmps34
  go_wp2_with (go_at_call 35; refine (Bad_q g s i false _ HH.out).mono ?_; rintro e w1 ⟨rfl, m1, rfl⟩)
  all_goals try go_quiet (fail)
  all_goals try go_wp2
  go_ret
  refine ⟨?_, _, by first | rfl | exact World.drewN_drewN _ _ _⟩
  show Ending.returned (.int .i64 ((s.size : Int) - (i : Int))) = _
  rw [show (s.size : Int) - (i : Int) = ((s.size - i : Nat) : Int) by omega]
theorem RJ.drewN {w0 w W : World} {g : Nat} {s : ByteArray} {i : Int} {b : Bool} (h : RJ w0 w g s i b W) (m : Nat) : RJ w0 w g s i b (W.drewN m) := ⟨h.1.drewN m, pw_below_drewN h.2.1 m, h.2.2⟩
/-- The code that the bytes i, .. i + m - 1 say, the last one first, behind c. -/
def codeAt (s : ByteArray) (i : Nat) : Nat → Int → Int
  | 0, c => c
  | m + 1, c => codeAt s i m (IntKind.u64.wrap (IntKind.u64.wrap (c * 128) + IntKind.u64.wrap (bt s ((i + m : Nat) : Int) % 128)))
set_option maxHeartbeats 4000000 in
theorem ref_walk (k g : Nat) (s : ByteArray) (i : Nat) (hi : i ≤ s.size) (hs : s.size ≤ 1152921504606846976) (w0 w : World) (hI : IsS56 w0 w g s i false) (hB : Below w0.heap.size w0 w)
    (hbad : cntF s i 10 0 = 10 ∨ s.size - i ≤ cntF s i 10 0) :
    Calls Try.prog 25 #[.pointer (some ⟨g, 0, none⟩)] w fun e w' => e = .returned (.int .i64 0) ∧ IsS56 w0 w' g s i true ∧ Below w0.heap.size w0 w' ∧ KeepBut w w' g none := by
  have HL := Lib.hid (Left_ref s i hi hs)
  have HI := Lib.hid hI
  have HBAD := Lib.hid hbad
  clear hI hbad
  go_enter Try.func25, Try.ntmps25
  go_wp2
  go_loopw [3] (fun v wr => ∃ n : Nat, n ≤ 10 ∧ v = .int .i64 n ∧ RJ w0 w g s i false wr ∧ cntF s i (10 - n) n = cntF s i 10 0) (fun v _ => 10 - (intOf v).toNat)
  case atStart => exact ⟨0, by omega, rfl, ⟨HI.out, hB, KeepBut.refl _ _ _⟩, rfl⟩
  case round =>
    obtain ⟨n, hn, rfl, hR, hc⟩ := hrel
    have HR := Lib.hid hR
    have HC := Lib.hid hc
    clear hR hc
    by_cases h1 : n < 10
    · have e1 : decide ((n : Int) < 10) = true := decide_eq_true (by omega)
      have e1' : ((n : Int) == 10) = false := beq_eq_false_iff_ne.mpr (by omega)
      by_cases h2 : n < s.size - i
      · have e2 : decide ((n : Int) < ((s.size - i : Nat) : Int)) = true := decide_eq_true (by omega)
        obtain ⟨jj, hjj⟩ : ∃ jj : Int, jj = ((i + n : Nat) : Int) := ⟨_, rfl⟩
        have e3 : IntKind.i64.wrap ((i : Int) + (n : Int)) = jj := by rw [hjj, IntKind.wrap_i64]; omega
        have e3' : wrap64 ((i : Int) + (n : Int)) = jj := by rw [hjj]; unfold wrap64; omega
        have p18 : (0 ≤ jj) = True := eq_true (by omega)
        have q18 : (jj < (s.size : Int)) = True := eq_true (by omega)
        have hx18 : ∀ (h : jj.toNat < s.size), ((s[jj.toNat]'h).toNat : Int) = bt s jj := fun h => by unfold bt; rw [dif_pos h]
        by_cases h3 : 128 ≤ bt s jj
        · have e4 : decide (128 ≤ bt s jj) = true := decide_eq_true h3
          have hnext : cntF s i (10 - (n + 1)) (n + 1) = cntF s i 10 0 := by
            have := HC.out
            rw [show 10 - n = (10 - (n + 1)) + 1 by omega] at this
            rw [← this]
            conv => rhs; unfold cntF
            rw [if_pos ⟨h2, by rw [← hjj]; exact h3⟩]
          have HJ := Lib.hid hjj
          have HN := Lib.hid hnext
          clear hjj hnext h3
          go_wp2
          have q0 := cellS56_0 HR.out.a.1
          have q1 := cellS56_1 HR.out.a.1
          go_quiet ((go_at_call 34; exact Calls.quiet_of (Left_q g s i _ hi hs HR.out.a.1)))
          go_wp2
          go_roundw
          case rel => exact ⟨n + 1, by omega, by go_num, HR.out.drewN _, HN.out⟩
          case measure => simp [intOf]; omega
        · exfalso
          have := HC.out
          rw [show 10 - n = (10 - (n + 1)) + 1 by omega] at this
          have h6 : cntF s i (10 - (n + 1) + 1) n = n := by unfold cntF; rw [if_neg (fun h => h3 (by rw [hjj]; exact h.2))]
          rw [h6] at this
          have hb := HBAD.out
          rw [← this] at hb
          omega
      · have e2 : decide ((n : Int) < ((s.size - i : Nat) : Int)) = false := decide_eq_false (by omega)
        have e2' : decide (((s.size - i : Nat) : Int) ≤ (n : Int)) = true := decide_eq_true (by omega)
        have q0 := cellS56_0 HR.out.a.1
        have q1 := cellS56_1 HR.out.a.1
        go_wp2
        go_quiet ((go_at_call 34; exact Calls.quiet_of (Left_q g s i _ hi hs HR.out.a.1)))
        go_wp2_with (first
          | (go_at_call 34; refine (Left_q g s i _ hi hs (HR.out.drewN _).a.1).mono ?_; rintro e wx ⟨rfl, mx, rfl⟩)
          | (go_at_call 40; with_reducible refine (abugidaref02_Reader_fail.calls g s (i : Int) false s (i : Int) true w0 _ (HR.out.drewN _).a (HR.out.drewN _).d rfl).mono ?_; rintro e wy ⟨rfl, hiy, hby, hky⟩))
        go_ret
        exact ⟨rfl, hiy, hby, ((HR.out.drewN _).step hiy hby hky).2.2⟩
    · obtain rfl : n = 10 := by omega
      have q0 := cellS56_0 HR.out.a.1
      have q1 := cellS56_1 HR.out.a.1
      go_wp2
      go_quiet (fail)
      go_wp2_with (go_at_call 40; with_reducible refine (abugidaref02_Reader_fail.calls g s (i : Int) false s (i : Int) true w0 _ (HR.out.drewN _).a (HR.out.drewN _).d rfl).mono ?_; rintro e wy ⟨rfl, hiy, hby, hky⟩)
      go_ret
      exact ⟨rfl, hiy, hby, ((HR.out.drewN _).step hiy hby hky).2.2⟩
end Go.Proofs.Ytibdgpnedlpdbaa.Gw
