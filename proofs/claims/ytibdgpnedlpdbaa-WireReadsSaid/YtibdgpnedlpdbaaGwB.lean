/- wire.Ints and wire.Texts; wire.read, and the reader's lists. -/
import Derived.Test.YtibdgpnedlpdbaaGwA
set_option linter.unusedVariables false
set_option linter.unusedSimpArgs false
namespace Go.Proofs.Ytibdgpnedlpdbaa.Gw
open Go.RowKit Go.Proofs.YtibdgpnedlpdbaaW.PrintWords Go.Proofs.Ytibdgpnedlpdbaa.Pb
def wire_Ints.f (k : Nat) (l0 : List Int) : Option ByteArray := listF (wire_Int.f k) (wire_Int.f k) l0
theorem wire_Ints.mono : ∀ a0 k, LeO (wire_Ints.f k a0) (wire_Ints.f (k + 1) a0) := fun a0 k => listF_mono (fun x => wire_Int.mono x k) (fun x => wire_Int.mono x k) a0
def wire_Texts.f (k : Nat) (l0 : List ByteArray) : Option ByteArray := listF (wire_Int.f k) (wire_Text.f k) l0
theorem wire_Texts.mono : ∀ a0 k, LeO (wire_Texts.f k a0) (wire_Texts.f (k + 1) a0) := fun a0 k => listF_mono (fun x => wire_Int.mono x k) (fun x => wire_Text.mono x k) a0
theorem wire_Ints.calls (k : Nat) (A0 : Option Addr) (c0 : Nat) (l0 : List Int) (r : ByteArray) (w : World) (hr0 : Kd.C (Kd.int .i64) w A0 l0.length l0) (hc0 : l0.length ≤ c0) (h : wire_Ints.f k l0 = some r) :
    Calls Try.prog 20 #[.slice A0 l0.length c0] w fun e w' => e = .returned (.string r) ∧ Below w.heap.size w w' := by
  have HR := Lib.hid hr0
  have HH := Lib.hid h
  clear hr0 h
  go_enter Try.func20, Try.ntmps20
  go_wp2_with (go_at_call 38; refine (list_int k A0 c0 l0 r _ HR.out HH.out).mono ?_; rintro e w1 ⟨rfl, hb1⟩)
  go_ret
  exact ⟨rfl, hb1⟩
theorem wire_Texts.calls (k : Nat) (A0 : Option Addr) (c0 : Nat) (l0 : List ByteArray) (r : ByteArray) (w : World) (hr0 : Kd.C Kd.string w A0 l0.length l0) (hc0 : l0.length ≤ c0) (h : wire_Texts.f k l0 = some r) :
    Calls Try.prog 22 #[.slice A0 l0.length c0] w fun e w' => e = .returned (.string r) ∧ Below w.heap.size w w' := by
  have HR := Lib.hid hr0
  have HH := Lib.hid h
  clear hr0 h
  go_enter Try.func22, Try.ntmps22
  go_wp2_with (go_at_call 39; refine (list_string k A0 c0 l0 r _ HR.out HH.out).mono ?_; rintro e w1 ⟨rfl, hb1⟩)
  go_ret
  exact ⟨rfl, hb1⟩
/-- What is read, n elements at most: nothing if the reader is bad behind one of them. -/
def readL {α : Type} (nx : ByteArray → Bool → Option (α × ByteArray × Bool)) (lim : Nat) : Nat → List α → ByteArray → Bool → Option (List α × ByteArray × Bool)
  | 0, acc, s, b => some (acc, s, b)
  | n + 1, acc, s, b => (nx s b).bind fun q => if q.2.2 = true then some ([], q.2.1, q.2.2) else if acc.length < lim then readL nx lim n (acc ++ [q.1]) q.2.1 q.2.2 else none
theorem readL_mono {α : Type} {nx nx' : ByteArray → Bool → Option (α × ByteArray × Bool)} (lim : Nat) (hm : ∀ s b, LeO (nx s b) (nx' s b)) : ∀ n acc s b, LeO (readL nx lim n acc s b) (readL nx' lim n acc s b)
  | 0, acc, s, b => fun r hr => hr
  | n + 1, acc, s, b => fun r hr => by
    unfold readL at hr ⊢
    obtain ⟨q, hq, hr⟩ := Option.bind_eq_some_iff.1 hr
    rw [hm s b q hq]
    simp only [Option.bind_some]
    by_cases c : q.2.2 = true
    · rw [if_pos c] at hr ⊢; exact hr
    · rw [if_neg c] at hr ⊢
      by_cases c2 : acc.length < lim
      · rw [if_pos c2] at hr ⊢; exact readL_mono lim hm n _ _ _ r hr
      · rw [if_neg c2] at hr; cases hr
def RI (w0 w : World) (g : Nat) (s : ByteArray) (b : Bool) (W : World) : Prop := IsS47 w0 W g s b ∧ Below w0.heap.size w0 W ∧ KeepBut w W g none
theorem RI.step {w0 w W W' : World} {g : Nat} {s s' : ByteArray} {b b' : Bool} (h : RI w0 w g s b W) (h1 : IsS47 w0 W' g s' b') (h2 : Below w0.heap.size w0 W') (h3 : KeepBut W W' g none) : RI w0 w g s' b' W' :=
  ⟨h1, h2, KeepBut.trans h.2.2 h3 (.inl rfl)⟩
theorem R_past {α : Type} {d : Kd α} {e base : Nat} {w0 W W' : World} {g : Nat} {s : ByteArray} {b : Bool} {v : Value} {xs : List α} (hI : IsS47 w0 W g s b) (hO : d.R e W base (fun _ => True) v xs) (ht : ∀ q, q ∈ e :: d.E → q ≠ 47) (hK : KeepBut W W' g none) : d.R e W' base (fun _ => True) v xs :=
  Kd.R_mono (Kd.R_keep (hI.apart hO ht) hK (fun _ h => h.2)) (fun _ _ => trivial)
theorem RI.grown {w0 w W W' : World} {g : Nat} {s : ByteArray} {b : Bool} {row : Option Nat} (h : RI w0 w g s b W) (hg : W.grownBy W' row) (hne : some g ≠ row) (hb : Below w.heap.size W W') (hw : w0.heap.size ≤ w.heap.size) : RI w0 w g s b W' :=
  ⟨h.1.grown hg hne, h.2.1.trans (hb.mono hw), Nat.le_trans h.2.2.1 hb.size, fun i hi hgi hr => (hb.block i hi).trans (h.2.2.2 i hi hgi hr)⟩
set_option maxHeartbeats 1000000 in
theorem read_int (k g : Nat) (s0 : ByteArray) (b0 : Bool) (r1 : List Int) (r2 : ByteArray) (r3 : Bool) (w0 w : World) (hI : IsS47 w0 w g s0 b0) (hB : Below w0.heap.size w0 w)
    (h : ((wire_Reader_length.f k s0 b0).bind fun q => if q.1 ≤ 9223372036854775807 then readL (wire_Reader_Int.f k) 17592186044416 q.1.toNat [] q.2.1 q.2.2 else none) = some (r1, r2, r3)) :
    Calls Try.prog 43 #[.pointer (some ⟨g, 0, none⟩), .func (.func 13) #[.pointer (some ⟨g, 0, none⟩)] #[]] w
      fun e w' => ∃ v0_ : Value, e = .returned v0_ ∧ Kd.R (Kd.int .i64) 3 w' w.heap.size (fun _ => True) v0_ r1 ∧ IsS47 w0 w' g r2 r3 ∧ Below w0.heap.size w0 w' ∧ KeepBut w w' g none := by
  obtain ⟨q, hq, h⟩ := Option.bind_eq_some_iff.1 h
  obtain ⟨N, s1, b1⟩ := q
  by_cases hN : N ≤ 9223372036854775807
  case neg => rw [if_neg hN] at h; cases h
  rw [if_pos hN] at h
  have hsz0 : w0.heap.size ≤ w.heap.size := hB.size
  have HQ := Lib.hid hq
  have HH := Lib.hid h
  have HI0 := Lib.hid hI
  clear hq h hI
  go_enter Try.func43, Try.ntmps43
  go_wp2_with (go_at_call 41; refine (wire_Reader_length.calls k g s0 b0 N s1 b1 w0 _ HI0.out hB HQ.out).mono ?_; rintro e w1 ⟨rfl, hi1, hb1, hk1⟩; have HI1 := Lib.hid hi1; clear hi1)
  go_loopw [4, 8] (fun v i wr => ∃ (n : Nat) (acc : List Int) (s : ByteArray) (b : Bool), i = .int .i64 n ∧ n ≤ N.toNat ∧ RI w0 w g s b wr ∧ Kd.R (Kd.int .i64) 3 wr w.heap.size (fun _ => True) v acc ∧ readL (wire_Reader_Int.f k) 17592186044416 (N.toNat - n) acc s b = some (r1, r2, r3)) (fun _ i _ => N.toNat - (intOf i).toNat)
  case atStart => exact ⟨0, [], s1, b1, rfl, Nat.zero_le _, ⟨HI1.out, hb1, hk1⟩, Kd.R_nil _ _ _ _ _, HH.out⟩
  case round =>
    obtain ⟨n, acc, s, b, rfl, hn, hR, hO, hc⟩ := hrel
    by_cases hlt : (n : Int) < N
    · obtain ⟨m, hm⟩ : ∃ m, N.toNat - n = m + 1 := ⟨N.toNat - n - 1, by omega⟩
      rw [hm] at hc
      unfold readL at hc
      obtain ⟨q, hq, hc⟩ := Option.bind_eq_some_iff.1 hc
      obtain ⟨x, s', b'⟩ := q
      have HR := Lib.hid hR
      have HO := Lib.hid hO
      have HC := Lib.hid hc
      have HN := Lib.hid hq
      have HM := Lib.hid hm
      clear hR hO hc hq hm
      cases b' with
      | true =>
        go_wp2_with (first
          | (go_at_call 13; refine (wire_Reader_Int.calls k g s b x s' true w0 _ HR.out.1 HR.out.2.1 HN.out).mono ?_; rintro e w2 ⟨rfl, hi2, hb2, hk2⟩; have hR2 := HR.out.step hi2 hb2 hk2; have HR2 := Lib.hid hR2; clear hR2 hi2 hb2 hk2)
          | (go_at_call 16; refine (wire_Reader_Bad.calls g s' true true s' true w0 _ HR2.out.1 HR2.out.2.1 rfl).mono ?_; rintro e w3 ⟨rfl, hi3, hb3, hk3⟩; have hR3 := HR2.out.step hi3 hb3 hk3; have HR3 := Lib.hid hR3; clear hR3 hi3 hb3 hk3))
        go_ret
        have hq := HC.out
        simp only [if_true] at hq
        obtain ⟨rfl, rfl, rfl⟩ : [] = r1 ∧ s' = r2 ∧ true = r3 := by simpa using hq
        exact ⟨_, rfl, Kd.R_nil _ _ _ _ _, HR3.out.1, HR3.out.2.1, HR3.out.2.2⟩
      | false =>
        have hq := HC.out
        simp only [Bool.false_eq_true, if_false] at hq
        by_cases hlim : acc.length < 17592186044416
        case neg => rw [if_neg hlim] at hq; cases hq
        rw [if_pos hlim] at hq
        have HC2 := Lib.hid hq
        clear hq HC
        go_wp2_with (first
          | (go_at_call 13; refine (wire_Reader_Int.calls k g s b x s' false w0 _ HR.out.1 HR.out.2.1 HN.out).mono ?_; rintro e w2 ⟨rfl, hi2, hb2, hk2⟩; have hR2 := HR.out.step hi2 hb2 hk2; have hO2 := R_past HR.out.1 HO.out (by decide) hk2; have HR2 := Lib.hid hR2; have HO2 := Lib.hid hO2; clear hR2 hO2 hi2 hb2 hk2)
          | (go_at_call 16; refine (wire_Reader_Bad.calls g s' false false s' false w0 _ HR2.out.1 HR2.out.2.1 rfl).mono ?_; rintro e w3 ⟨rfl, hi3, hb3, hk3⟩; have hR3 := HR2.out.step hi3 hb3 hk3; have hO3 := R_past HR2.out.1 HO2.out (by decide) hk3; have HR3 := Lib.hid hR3; have HO3 := Lib.hid hO3; clear hR3 hO3 hi3 hb3 hk3)
          | ((with_reducible refine gate_builtin (b := .append) (xs := #[.tmp 14, .tmp 16]) rfl ?_); at_builtin; refine Kd.R_append (Kd.int .i64) (w0 := w3) w.heap.size rfl (.tmp 14) (.tmp 16) 28 3 (.int .i64 0) 8 rfl Try.underlying28 info3 rfl (by decide) (by omega) u4 acc x [.int .i64 x] (fun _ => True) (fun _ => False) rfl rfl ?aP (fun _ hk => hk.elim) ?aF ?aO ?aB ?aS ?aL ?_; (case aP => exact rfl); (case aB => exact Below.refl _ _); (case aF => exact (fun _ _ => trivial)); (case aO => exact HO3.out); (case aS => exact HR3.out.2.2.1); (case aL => omega); intro v5 w6 ho hb hg hat; have hR6 := HR3.out.grown hg (HR3.out.1.own_ne HO3.out (by decide)) hb hsz0; have HR6 := Lib.hid hR6; have HO6 := Lib.hid ho; clear hR6 ho hg hat))
        go_roundw
        case rel =>
          refine ⟨n + 1, acc ++ [x], s', false, by go_num, by omega, HR6.out, HO6.out, ?_⟩
          have e := HM.out
          rw [show N.toNat - (n + 1) = m by omega]
          exact HC2.out
        case measure => simp [intOf]; omega
    · rw [show N.toNat - n = 0 by omega] at hc
      unfold readL at hc
      obtain ⟨rfl, rfl, rfl⟩ : acc = r1 ∧ s = r2 ∧ b = r3 := by simpa using hc
      have HR := Lib.hid hR
      have HO := Lib.hid hO
      clear hR hO hc
      go_wp2
      go_ret
      exact ⟨_, rfl, HO.out, HR.out.1, HR.out.2.1, HR.out.2.2⟩
def wire_Reader_Ints.f (k : Nat) (s0_0 : ByteArray) (s0_1 : Bool) : Option (List Int × ByteArray × Bool) := (wire_Reader_length.f k s0_0 s0_1).bind fun q => if q.1 ≤ 9223372036854775807 then readL (wire_Reader_Int.f k) 17592186044416 q.1.toNat [] q.2.1 q.2.2 else none
theorem wire_Reader_Ints.mono : ∀ s0_0 s0_1 k, LeO (wire_Reader_Ints.f k s0_0 s0_1) (wire_Reader_Ints.f (k + 1) s0_0 s0_1) := by
  intro s b k r hr
  unfold wire_Reader_Ints.f at hr ⊢
  obtain ⟨q, hq, hr⟩ := Option.bind_eq_some_iff.1 hr
  rw [wire_Reader_length.mono s b k q hq]
  simp only [Option.bind_some]
  by_cases c : q.1 ≤ 9223372036854775807
  case neg => rw [if_neg c] at hr; cases hr
  rw [if_pos c] at hr ⊢
  exact readL_mono _ (fun s b => wire_Reader_Int.mono s b k) _ _ _ _ r hr
theorem wire_Reader_Ints.calls (k : Nat) (g : Nat) (s0_0 : ByteArray) (s0_1 : Bool) (r1 : List Int) (r2 : ByteArray) (r3 : Bool) (w0 w : World) (hI : IsS47 w0 w g s0_0 s0_1) (hB : Below w0.heap.size w0 w) (h : wire_Reader_Ints.f k s0_0 s0_1 = some (r1, r2, r3)) :
    Calls Try.prog 29 #[.pointer (some ⟨g, 0, none⟩)] w fun e w' => ∃ v0_ : Value, e = .returned v0_ ∧ Kd.R (Kd.int .i64) 3 w' w.heap.size (fun _ => True) v0_ r1 ∧ IsS47 w0 w' g r2 r3 ∧ Below w0.heap.size w0 w' ∧ KeepBut w w' g none := by
  have HI := Lib.hid hI
  have HH := Lib.hid h
  clear hI h
  go_enter Try.func29, Try.ntmps29
  go_wp2_with (go_at_call 43; refine (read_int k g s0_0 s0_1 r1 r2 r3 w0 _ HI.out hB HH.out).mono ?_; rintro e w1 ⟨v, rfl, h1, h2, h3, h4⟩)
  go_ret
  exact ⟨_, rfl, h1, h2, h3, h4⟩
set_option maxHeartbeats 1000000 in
theorem read_string (k g : Nat) (s0 : ByteArray) (b0 : Bool) (r1 : List ByteArray) (r2 : ByteArray) (r3 : Bool) (w0 w : World) (hI : IsS47 w0 w g s0 b0) (hB : Below w0.heap.size w0 w)
    (h : ((wire_Reader_length.f k s0 b0).bind fun q => if q.1 ≤ 9223372036854775807 then readL (wire_Reader_Text.f k) 8796093022208 q.1.toNat [] q.2.1 q.2.2 else none) = some (r1, r2, r3)) :
    Calls Try.prog 44 #[.pointer (some ⟨g, 0, none⟩), .func (.func 26) #[.pointer (some ⟨g, 0, none⟩)] #[]] w
      fun e w' => ∃ v0_ : Value, e = .returned v0_ ∧ Kd.R Kd.string 9 w' w.heap.size (fun _ => True) v0_ r1 ∧ IsS47 w0 w' g r2 r3 ∧ Below w0.heap.size w0 w' ∧ KeepBut w w' g none := by
  obtain ⟨q, hq, h⟩ := Option.bind_eq_some_iff.1 h
  obtain ⟨N, s1, b1⟩ := q
  by_cases hN : N ≤ 9223372036854775807
  case neg => rw [if_neg hN] at h; cases h
  rw [if_pos hN] at h
  have hsz0 : w0.heap.size ≤ w.heap.size := hB.size
  have HQ := Lib.hid hq
  have HH := Lib.hid h
  have HI0 := Lib.hid hI
  clear hq h hI
  go_enter Try.func44, Try.ntmps44
  go_wp2_with (go_at_call 41; refine (wire_Reader_length.calls k g s0 b0 N s1 b1 w0 _ HI0.out hB HQ.out).mono ?_; rintro e w1 ⟨rfl, hi1, hb1, hk1⟩; have HI1 := Lib.hid hi1; clear hi1)
  go_loopw [4, 8] (fun v i wr => ∃ (n : Nat) (acc : List ByteArray) (s : ByteArray) (b : Bool), i = .int .i64 n ∧ n ≤ N.toNat ∧ RI w0 w g s b wr ∧ Kd.R Kd.string 9 wr w.heap.size (fun _ => True) v acc ∧ readL (wire_Reader_Text.f k) 8796093022208 (N.toNat - n) acc s b = some (r1, r2, r3)) (fun _ i _ => N.toNat - (intOf i).toNat)
  case atStart => exact ⟨0, [], s1, b1, rfl, Nat.zero_le _, ⟨HI1.out, hb1, hk1⟩, Kd.R_nil _ _ _ _ _, HH.out⟩
  case round =>
    obtain ⟨n, acc, s, b, rfl, hn, hR, hO, hc⟩ := hrel
    by_cases hlt : (n : Int) < N
    · obtain ⟨m, hm⟩ : ∃ m, N.toNat - n = m + 1 := ⟨N.toNat - n - 1, by omega⟩
      rw [hm] at hc
      unfold readL at hc
      obtain ⟨q, hq, hc⟩ := Option.bind_eq_some_iff.1 hc
      obtain ⟨x, s', b'⟩ := q
      have HR := Lib.hid hR
      have HO := Lib.hid hO
      have HC := Lib.hid hc
      have HN := Lib.hid hq
      have HM := Lib.hid hm
      clear hR hO hc hq hm
      cases b' with
      | true =>
        go_wp2_with (first
          | (go_at_call 26; refine (wire_Reader_Text.calls k g s b x s' true w0 _ HR.out.1 HR.out.2.1 HN.out).mono ?_; rintro e w2 ⟨rfl, hi2, hb2, hk2⟩; have hR2 := HR.out.step hi2 hb2 hk2; have HR2 := Lib.hid hR2; clear hR2 hi2 hb2 hk2)
          | (go_at_call 16; refine (wire_Reader_Bad.calls g s' true true s' true w0 _ HR2.out.1 HR2.out.2.1 rfl).mono ?_; rintro e w3 ⟨rfl, hi3, hb3, hk3⟩; have hR3 := HR2.out.step hi3 hb3 hk3; have HR3 := Lib.hid hR3; clear hR3 hi3 hb3 hk3))
        go_ret
        have hq := HC.out
        simp only [if_true] at hq
        obtain ⟨rfl, rfl, rfl⟩ : [] = r1 ∧ s' = r2 ∧ true = r3 := by simpa using hq
        exact ⟨_, rfl, Kd.R_nil _ _ _ _ _, HR3.out.1, HR3.out.2.1, HR3.out.2.2⟩
      | false =>
        have hq := HC.out
        simp only [Bool.false_eq_true, if_false] at hq
        by_cases hlim : acc.length < 8796093022208
        case neg => rw [if_neg hlim] at hq; cases hq
        rw [if_pos hlim] at hq
        have HC2 := Lib.hid hq
        clear hq HC
        go_wp2_with (first
          | (go_at_call 26; refine (wire_Reader_Text.calls k g s b x s' false w0 _ HR.out.1 HR.out.2.1 HN.out).mono ?_; rintro e w2 ⟨rfl, hi2, hb2, hk2⟩; have hR2 := HR.out.step hi2 hb2 hk2; have hO2 := R_past HR.out.1 HO.out (by decide) hk2; have HR2 := Lib.hid hR2; have HO2 := Lib.hid hO2; clear hR2 hO2 hi2 hb2 hk2)
          | (go_at_call 16; refine (wire_Reader_Bad.calls g s' false false s' false w0 _ HR2.out.1 HR2.out.2.1 rfl).mono ?_; rintro e w3 ⟨rfl, hi3, hb3, hk3⟩; have hR3 := HR2.out.step hi3 hb3 hk3; have hO3 := R_past HR2.out.1 HO2.out (by decide) hk3; have HR3 := Lib.hid hR3; have HO3 := Lib.hid hO3; clear hR3 hO3 hi3 hb3 hk3)
          | ((with_reducible refine gate_builtin (b := .append) (xs := #[.tmp 14, .tmp 16]) rfl ?_); at_builtin; refine Kd.R_append Kd.string (w0 := w3) w.heap.size rfl (.tmp 14) (.tmp 16) 29 9 (.string ⟨#[]⟩) 16 rfl Try.underlying29 info9 rfl (by decide) (by omega) u4 acc x [.string x] (fun _ => True) (fun _ => False) rfl rfl ?aP (fun _ hk => hk.elim) ?aF ?aO ?aB ?aS ?aL ?_; (case aP => exact rfl); (case aB => exact Below.refl _ _); (case aF => exact (fun _ _ => trivial)); (case aO => exact HO3.out); (case aS => exact HR3.out.2.2.1); (case aL => omega); intro v5 w6 ho hb hg hat; have hR6 := HR3.out.grown hg (HR3.out.1.own_ne HO3.out (by decide)) hb hsz0; have HR6 := Lib.hid hR6; have HO6 := Lib.hid ho; clear hR6 ho hg hat))
        go_roundw
        case rel =>
          refine ⟨n + 1, acc ++ [x], s', false, by go_num, by omega, HR6.out, HO6.out, ?_⟩
          have e := HM.out
          rw [show N.toNat - (n + 1) = m by omega]
          exact HC2.out
        case measure => simp [intOf]; omega
    · rw [show N.toNat - n = 0 by omega] at hc
      unfold readL at hc
      obtain ⟨rfl, rfl, rfl⟩ : acc = r1 ∧ s = r2 ∧ b = r3 := by simpa using hc
      have HR := Lib.hid hR
      have HO := Lib.hid hO
      clear hR hO hc
      go_wp2
      go_ret
      exact ⟨_, rfl, HO.out, HR.out.1, HR.out.2.1, HR.out.2.2⟩
def wire_Reader_Texts.f (k : Nat) (s0_0 : ByteArray) (s0_1 : Bool) : Option (List ByteArray × ByteArray × Bool) := (wire_Reader_length.f k s0_0 s0_1).bind fun q => if q.1 ≤ 9223372036854775807 then readL (wire_Reader_Text.f k) 8796093022208 q.1.toNat [] q.2.1 q.2.2 else none
theorem wire_Reader_Texts.mono : ∀ s0_0 s0_1 k, LeO (wire_Reader_Texts.f k s0_0 s0_1) (wire_Reader_Texts.f (k + 1) s0_0 s0_1) := by
  intro s b k r hr
  unfold wire_Reader_Texts.f at hr ⊢
  obtain ⟨q, hq, hr⟩ := Option.bind_eq_some_iff.1 hr
  rw [wire_Reader_length.mono s b k q hq]
  simp only [Option.bind_some]
  by_cases c : q.1 ≤ 9223372036854775807
  case neg => rw [if_neg c] at hr; cases hr
  rw [if_pos c] at hr ⊢
  exact readL_mono _ (fun s b => wire_Reader_Text.mono s b k) _ _ _ _ r hr
theorem wire_Reader_Texts.calls (k : Nat) (g : Nat) (s0_0 : ByteArray) (s0_1 : Bool) (r1 : List ByteArray) (r2 : ByteArray) (r3 : Bool) (w0 w : World) (hI : IsS47 w0 w g s0_0 s0_1) (hB : Below w0.heap.size w0 w) (h : wire_Reader_Texts.f k s0_0 s0_1 = some (r1, r2, r3)) :
    Calls Try.prog 32 #[.pointer (some ⟨g, 0, none⟩)] w fun e w' => ∃ v0_ : Value, e = .returned v0_ ∧ Kd.R Kd.string 9 w' w.heap.size (fun _ => True) v0_ r1 ∧ IsS47 w0 w' g r2 r3 ∧ Below w0.heap.size w0 w' ∧ KeepBut w w' g none := by
  have HI := Lib.hid hI
  have HH := Lib.hid h
  clear hI h
  go_enter Try.func32, Try.ntmps32
  go_wp2_with (go_at_call 44; refine (read_string k g s0_0 s0_1 r1 r2 r3 w0 _ HI.out hB HH.out).mono ?_; rintro e w1 ⟨v, rfl, h1, h2, h3, h4⟩)
  go_ret
  exact ⟨_, rfl, h1, h2, h3, h4⟩
end Go.Proofs.Ytibdgpnedlpdbaa.Gw
