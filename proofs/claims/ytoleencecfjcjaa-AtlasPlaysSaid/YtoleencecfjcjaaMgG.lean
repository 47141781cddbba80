/- Several texts of this claim, one behind the other: Pbx0, Pbx1, Pbx6, Pbx2, Bd, GwA, GwB, Pbx4, GwC, GwD, GwE, GwF, Pnx0, Pnx1. -/
import Derived.Test.YtoleencecfjcjaaProg
import Derived.Below
import Derived.Deep.Draws
import Derived.Deep.AppendLies
import Derived.Maps.AppendAt
import Derived.OwnWalk
import Derived.Laws.BytesArg
import Derived.Laws.MakeOwn
import Derived.Laws.OwnMore
import Derived.Deep.OwnRows
import Derived.Tactics
import Derived.Lib.ConvBytes
import Derived.Laws.Slices
import Derived.WalkKit
import Derived.KernelRfl
import Derived.RowKit3
import Derived.Deep.LoopGhost
import Derived.Deep.QuietTactic
import Derived.BigQuiet
import Derived.WideLaws
import Derived.Deep.DeepCutAuto
import Derived.Deep.CutBlock
import Derived.Deep.RegionHeld3
import Derived.Laws.Rows
import Derived.Lib.AppendStr
import Derived.ArgAppend
import Derived.Laws.IdiomCopy
import Derived.OrdersHeld
import Derived.Laws.BitsLemmas
import Derived.RowKit
import Derived.Test.YtoleencecfjcjaaMgP
import Derived.Lib.Hide
import Derived.Shelf.Strings.BuilderK
-- Printed for this claim by its own gprint.py, over contracts proved by hand; not trusted: Lean checks it.
namespace Go.Proofs.Ytoleencecfjcjaa.Pb
open Go.RowKit Go.Proofs.YtoleencecfjcjaaW.PrintWords Go.Proofs.YtoleencecfjcjaaW.PrintLast Go.Proofs.YtoleencecfjcjaaW.PrintMore
attribute [local go_sem] max2_int min2_int max_two min_two max_three min_three max_four min_four   -- for this text's walks alone
set_option linter.unusedVariables false
set_option linter.unusedSimpArgs false



def errW : Option Int → Value
  | none => .nilIface
  | some c => .iface 0 (.int .i64 c)
theorem errW_none : errW none = .nilIface := rfl
theorem errW_some (c : Int) : errW (some c) = .iface 0 (.int .i64 c) := rfl

theorem info5 : (Try.prog.info? 5).map (fun i => (i.zero, i.size, i.bytes)) = some (some (.int .u8 0), 1, 1) := by kernel_rfl
-- the values' own types

end Go.Proofs.Ytoleencecfjcjaa.Pb

-- Printed for this claim by its own gprint.py, over contracts proved by hand; not trusted: Lean checks it.
namespace Go.Proofs.Ytoleencecfjcjaa.Pb
open Go.RowKit Go.Proofs.YtoleencecfjcjaaW.PrintWords Go.Proofs.YtoleencecfjcjaaW.PrintLast Go.Proofs.YtoleencecfjcjaaW.PrintMore
attribute [local go_sem] max2_int min2_int max_two min_two max_three min_three max_four min_four   -- for this text's walks alone
set_option linter.unusedVariables false
set_option linter.unusedSimpArgs false

/-! ### wire_Int: function 47 -/
mutual
def wire_Int.j0 : Nat → Int → Option (ByteArray)
  | 0, _ => none
  | k + 1, x3 => wire_Int.l0 k x3 ([] : List Int)
def wire_Int.l0 : Nat → Int → List Int → Option (ByteArray)
  | 0, _, _ => none
  | k + 1, x3, x4 => if x3 ≥ 128 then (if x4.length < 140737488355328 then (wire_Int.l0 k (x3 / 128) (x4 ++ [Go.bits .or .u8 ((x3) % 256) 128])) else (none)) else (if x4.length < 140737488355328 then (some (strOfNums (x4 ++ [(x3) % 256]))) else (none))
end
def wire_Int.f (k : Nat) (a0 : Int) : Option (ByteArray) := if a0 < 0 then (wire_Int.j0 k (Go.bits .xor .u64 18446744073709551615 (IntKind.u64.wrap ((IntKind.u64.wrap (a0)) * 2)))) else (wire_Int.j0 k (IntKind.u64.wrap ((IntKind.u64.wrap (a0)) * 2)))
set_option maxHeartbeats 8000000 in
set_option maxRecDepth 100000 in
theorem wire_Int.calls (k : Nat) (a0 : Int) (r : ByteArray) (w : World) (h : wire_Int.f k a0 = some r) :
    Calls Try.prog 47 #[.int .i64 a0] w fun e w' => e = .returned (.string r) ∧ Below w.heap.size w w' := by
  have HB := Aside0.mk (Below.refl w.heap.size w)
  have H : (if a0 < 0 then (wire_Int.j0 k (Go.bits .xor .u64 18446744073709551615 (IntKind.u64.wrap ((IntKind.u64.wrap (a0)) * 2)))) else (wire_Int.j0 k (IntKind.u64.wrap ((IntKind.u64.wrap (a0)) * 2)))) = some r := h
  clear h
  have HC2 := Aside0.mk H
  clear H
  go_enter Try.func47, Try.ntmps47
  go_upto_if 9 with (fail)
  go_cut [3] (fun v3 wc => ∃ (kq : Nat) (x3_1 : Int), v3 = .int .u64 x3_1 ∧ Aside0 (wire_Int.j0 kq x3_1 = some r) ∧ Aside0 (kq ≤ k) ∧ Aside0 (Below w.heap.size w wc))
  case first =>
    have H := HC2.out
    clear HC2
    by_cases c3 : a0 < 0
    · rw [if_pos c3] at H
      have c3b0 : decide (a0 < 0) = true := decide_eq_true c3
      clear c3
      (first | rw [c3b0] | (simp only [i64_w, i32_w]; rw [c3b0]) | skip)
      have H' := Aside0.mk H
      clear H
      go_wp2
      go_meet
      case rel => exact ⟨_, (Go.bits .xor .u64 18446744073709551615 (IntKind.u64.wrap ((IntKind.u64.wrap (a0)) * 2))), (by first | rfl | (simp; done) | (simp [*]; done)), H', ⟨by first | omega | exact Nat.le_refl _⟩, ⟨by repeat (first | (with_reducible first | exact HB.out | apply below_alloc | apply pw_below_drewN | apply below_drew1) | exact HB.out)⟩⟩
    · rw [if_neg c3] at H
      have c3b0 : decide (a0 < 0) = false := decide_eq_false c3
      clear c3
      (first | rw [c3b0] | (simp only [i64_w, i32_w]; rw [c3b0]) | skip)
      have H' := Aside0.mk H
      clear H
      go_wp2
      go_meet
      case rel => exact ⟨_, (IntKind.u64.wrap ((IntKind.u64.wrap (a0)) * 2)), (by first | rfl | (simp; done) | (simp [*]; done)), H', ⟨by first | omega | exact Nat.le_refl _⟩, ⟨by repeat (first | (with_reducible first | exact HB.out | apply below_alloc | apply pw_below_drewN | apply below_drew1) | exact HB.out)⟩⟩
  case rest =>
    clear HC2
    try clear p2
    try clear c3
    try clear c3b0
    obtain ⟨kq, x3_1, rfl, HA, HJ1, HB⟩ := hcut
    cases kq with
    | zero => exact absurd HA.out (by simp [wire_Int.j0])
    | succ kj1 =>
      have H := HA.out
      clear HA
      simp only [wire_Int.j0] at H
      have H' := Aside0.mk H
      clear H
      go_wp2
      go_loopg [3, 4] kj1 (fun kq v3 v4 w' => ∃ (x3_2 : Int) (x4_2 : List Int), v3 = .int .u64 x3_2 ∧ Aside0 (wire_Int.l0 kq x3_2 x4_2 = some r) ∧ Aside0 (kq ≤ kj1) ∧ Aside0 (Kd.R (Kd.int .u8) 5 w' w.heap.size (fun _ => True) v4 x4_2) ∧ Aside0 (Below w.heap.size w w'))
      case atStart => exact ⟨(x3_1), (([] : List Int)), (by first | rfl | (simp; done) | (simp [*]; done)), H', ⟨Nat.le_refl _⟩, ⟨by first | exact Kd.R_nil _ _ _ _ _ | exact Kd.N_nil _ _ _ _ _ | exact Kd.V_nil _ _ _ _ _ | exact Kd.Q_nil _ _ _ _ _ | exact Kd.S_nil _ _ _ _ _⟩, ⟨by repeat (first | (with_reducible first | exact HB.out | apply below_alloc | apply pw_below_drewN | apply below_drew1) | exact HB.out)⟩⟩
      case round =>
        clear H'
        try clear p2
        try clear c3
        try clear c3b0
        try clear p2
        obtain ⟨x3_2, x4_2, rfl, HA, HK2, HO_4, HB⟩ := hrel
        cases gk with
        | zero => exact absurd HA.out (by simp [wire_Int.l0])
        | succ k2 =>
          have H := HA.out
          clear HA
          simp only [wire_Int.l0] at H
          by_cases c4 : x3_2 ≥ 128
          · rw [if_pos c4] at H
            have c4b0 : decide (128 ≤ x3_2) = true := decide_eq_true c4
            clear c4
            by_cases c5 : x4_2.length < 140737488355328
            · rw [if_pos c5] at H
              have LMc5 := Aside0.mk c5
              clear c5
              obtain ⟨y101, hy101⟩ : ∃ y_ : List Int, y_ = (x4_2 ++ [Go.bits .or .u8 ((x3_2) % 256) 128]) := ⟨_, rfl⟩
              replace H : (wire_Int.l0 k2 (x3_2 / 128) y101) = some r := by first | (rw [hy101]; with_reducible exact H) | (have H2_ := (Option.bind_some _ _).symm.trans H; rw [hy101]; with_reducible exact H2_) | (have H2_ := (Option.bind_some _ _).symm.trans H; with_reducible exact H2_) | with_reducible exact H | (rw [hy101]; exact H) | exact H
              have Ny101 := Aside0.mk hy101
              clear hy101
              have H' := Aside0.mk H
              clear H
              go_wp2_with (first | ((with_reducible refine gate_builtin (b := .append) (xs := #[.tmp 16, .tmp 20]) rfl ?_); at_builtin; refine Kd.R_append (Kd.int .u8) (w0 := w) w.heap.size rfl (.tmp 16) (.tmp 20) 83 5 (.int .u8 0) 1 rfl Try.underlying83 info5 rfl (by decide) (by omega) u4 x4_2 (Go.bits .or .u8 ((x3_2) % 256) 128) [.int .u8 (Go.bits .or .u8 ((x3_2) % 256) 128)] (fun _ => True) (fun _ => False) rfl rfl ?aP (fun _ hk => hk.elim) ?aF ?aO ?aB ?aS ?aL ?_; (case aP => exact rfl); (case aB => exact (by repeat (first | (with_reducible first | exact HB.out | apply below_alloc | apply pw_below_drewN | apply below_drew1) | exact HB.out))); (case aF => exact (fun _ _ => trivial)); (case aO => exact (by (with_reducible repeat (first | apply Kd.R_alloc | apply Kd.R_drewN | apply Kd.R_drew)); exact HO_4.out)); (case aS => exact (below_size (by repeat (first | (with_reducible first | exact HB.out | apply below_alloc | apply pw_below_drewN | apply below_drew1) | exact HB.out)))); (case aL => have := LMc5.out; omega); intro v102 w6 ho hb hg hat; rw [← Ny101.out] at ho; have n0_ := Aside0.mk (hb); have n1_ := Aside0.mk (ho); clear HB; clear HO_4; have HB := n0_; have HO103 := n1_; clear n0_ n1_; clear ho hb hg hat))
              go_roundg k2
              case measure => have := HJ1.out; have := HK2.out; omega
              case rel => exact ⟨(x3_2 / 128), (y101), (by first | rfl | (simp; done) | (simp [*]; done)), H', ⟨by have := HJ1.out; have := HK2.out; omega⟩, ⟨by (with_reducible repeat (first | apply Kd.R_alloc | apply Kd.R_drewN | apply Kd.R_drew)); exact HO103.out⟩, ⟨by repeat (first | (with_reducible first | exact HB.out | apply below_alloc | apply pw_below_drewN | apply below_drew1) | exact HB.out)⟩⟩
            · rw [if_neg c5] at H
              exact absurd H (by simp)
          · rw [if_neg c4] at H
            have c4b0 : decide (128 ≤ x3_2) = false := decide_eq_false c4
            clear c4
            by_cases c7 : x4_2.length < 140737488355328
            · rw [if_pos c7] at H
              have LMc7 := Aside0.mk c7
              clear c7
              obtain ⟨y104, hy104⟩ : ∃ y_ : List Int, y_ = (x4_2 ++ [(x3_2) % 256]) := ⟨_, rfl⟩
              replace H : (some (strOfNums y104)) = some r := by first | (rw [hy104]; with_reducible exact H) | (have H2_ := (Option.bind_some _ _).symm.trans H; rw [hy104]; with_reducible exact H2_) | (have H2_ := (Option.bind_some _ _).symm.trans H; with_reducible exact H2_) | with_reducible exact H | (rw [hy104]; exact H) | exact H
              have Ny104 := Aside0.mk hy104
              clear hy104
              obtain rfl := Option.some.inj H
              go_wp2_with (first | ((with_reducible refine gate_builtin (b := .append) (xs := #[.tmp 22, .tmp 25]) rfl ?_); at_builtin; refine Kd.R_append (Kd.int .u8) (w0 := w) w.heap.size rfl (.tmp 22) (.tmp 25) 83 5 (.int .u8 0) 1 rfl Try.underlying83 info5 rfl (by decide) (by omega) u4 x4_2 ((x3_2) % 256) [.int .u8 ((x3_2) % 256)] (fun _ => True) (fun _ => False) rfl rfl ?aP (fun _ hk => hk.elim) ?aF ?aO ?aB ?aS ?aL ?_; (case aP => exact rfl); (case aB => exact (by repeat (first | (with_reducible first | exact HB.out | apply below_alloc | apply pw_below_drewN | apply below_drew1) | exact HB.out))); (case aF => exact (fun _ _ => trivial)); (case aO => exact (by (with_reducible repeat (first | apply Kd.R_alloc | apply Kd.R_drewN | apply Kd.R_drew)); exact HO_4.out)); (case aS => exact (below_size (by repeat (first | (with_reducible first | exact HB.out | apply below_alloc | apply pw_below_drewN | apply below_drew1) | exact HB.out)))); (case aL => have := LMc7.out; omega); intro v105 w8 ho hb hg hat; rw [← Ny104.out] at ho; have n0_ := Aside0.mk (hb); have n1_ := Aside0.mk (ho); clear HB; clear HO_4; have HB := n0_; have HO106 := n1_; clear n0_ n1_; clear ho hb hg hat; have hcv9 := own_string (P := Try.prog) Try.underlying83 Try.underlying5 Try.underlying9 (Kd.own_of_R HO106.out)))
              go_ret
              exact ⟨by first | rfl | (simp [errW_none, errW_some] <;> rfl) | (simp [*, errW_none, errW_some] <;> rfl), by repeat (first | (with_reducible first | exact HB.out | apply below_alloc | apply pw_below_drewN | apply below_drew1) | exact HB.out)⟩
            · rw [if_neg c7] at H
              exact absurd H (by simp)

/-! ### wire_Text: function 46 -/
def wire_Text.f (k : Nat) (a0 : ByteArray) : Option (ByteArray) := (wire_Int.f k (a0.size : Int)).bind fun t107 => (if t107.size + a0.size ≤ 9223372036854775807 then (some (t107 ++ a0)) else (none))
set_option maxHeartbeats 8000000 in
set_option maxRecDepth 100000 in
theorem wire_Text.calls (k : Nat) (a0 : ByteArray) (r : ByteArray) (w : World) (h : wire_Text.f k a0 = some r) :
    Calls Try.prog 46 #[.string a0] w fun e w' => e = .returned (.string r) ∧ Below w.heap.size w w' := by
  have HB := Aside0.mk (Below.refl w.heap.size w)
  have H : ((wire_Int.f k (a0.size : Int)).bind fun t107 => (if t107.size + a0.size ≤ 9223372036854775807 then (some (t107 ++ a0)) else (none))) = some r := h
  clear h
  replace H := Option.bind_eq_some_iff.mp H
  obtain ⟨t107, A20, H⟩ := H
  replace H : (if t107.size + a0.size ≤ 9223372036854775807 then (some (t107 ++ a0)) else (none)) = some r := H
  have A2 := Aside0.mk A20
  clear A20
  by_cases c3 : t107.size + a0.size ≤ 9223372036854775807
  · rw [if_pos c3] at H
    have c3b0 := eq_true c3
    have c3b1 : decide (t107.size + a0.size ≤ 9223372036854775807) = true := decide_eq_true c3
    try have c3b2 : (9223372036854775807 < t107.size + a0.size) = False := eq_false (Nat.not_lt.2 c3)
    obtain rfl := Option.some.inj H
    go_enter Try.func46, Try.ntmps46
    go_wp2_with (first | ((with_reducible refine gate_callee (f := 47) rfl ?_); refine goesL_ (some 5) rfl rfl Try.func47 (by kernel_rfl) rfl #[.int .i64 (a0.size : Int)] rfl (by (try simp only [List.map_toArray, List.map_cons, List.map_nil]); first | done | rfl | (simp only [List.length_drop, List.length_take]; rfl)) ?_; (with_reducible refine (wire_Int.calls k (a0.size : Int) t107 _ A2.out).mono ?_); rintro e w4 ⟨rfl, hb⟩; refine ⟨_, rfl, ?_⟩; have n0_ := Aside0.mk (below_step (by repeat (first | (with_reducible first | exact HB.out | apply below_alloc | apply pw_below_drewN | apply below_drew1) | exact HB.out)) hb); clear HB; have HB := n0_; clear n0_; (try clear hb); (try clear hb2); (try clear hk); (try clear hi)))
    go_ret
    exact ⟨by first | rfl | (simp [errW_none, errW_some] <;> rfl) | (simp [*, errW_none, errW_some] <;> rfl), by repeat (first | (with_reducible first | exact HB.out | apply below_alloc | apply pw_below_drewN | apply below_drew1) | exact HB.out)⟩
  · rw [if_neg c3] at H
    exact absurd H (by simp)

/-! ### abugidaref02_code: function 62 -/
/-! ### abugidaref02_Int: function 50 -/
/-! ### abugidaref02_Text: function 49 -/
/-! ### abugidaref02_Ints: function 51 -/
/-! ### abugidaref02_SameInts: function 28 -/
/-! ### abugidaref02_SameTexts: function 21 -/
def abugidaref02_SameTexts.l0 : Nat → List ByteArray → List ByteArray → Int → Option (Bool)
  | 0, _, _, _ => none
  | k + 1, x0, x1, x5 => if x5 < (x0.length : Int) then (if 0 ≤ x5 then (if x5 < (x1.length : Int) then (if (rdOf ByteArray.empty x0 x5).toList = (rdOf ByteArray.empty x1 x5).toList then (abugidaref02_SameTexts.l0 k x0 x1 (wrap64 (x5 + 1))) else (some false)) else (none)) else (none)) else (some true)
def abugidaref02_SameTexts.f (k : Nat) (l0 : List ByteArray) (l1 : List ByteArray) : Option (Bool) := if (l0.length : Int) = (l1.length : Int) then (abugidaref02_SameTexts.l0 k l0 l1 0) else (some false)
set_option maxHeartbeats 8000000 in
set_option maxRecDepth 100000 in
theorem abugidaref02_SameTexts.calls (k : Nat) (A0 : Option Addr) (c0 : Nat) (l0 : List ByteArray) (A1 : Option Addr) (c1 : Nat) (l1 : List ByteArray) (r : Bool) (w : World) (hr0 : Kd.C Kd.string w A0 l0.length l0) (hc0 : l0.length ≤ c0) (hr1 : Kd.C Kd.string w A1 l1.length l1) (hc1 : l1.length ≤ c1) (h : abugidaref02_SameTexts.f k l0 l1 = some r) :
    Calls Try.prog 21 #[.slice A0 l0.length c0, .slice A1 l1.length c1] w fun e w' => e = .returned (.bool r) ∧ Drawn0 w w' := by
  have HR0 := Aside0.mk hr0
  have HC0 := Aside0.mk hc0
  clear hr0 hc0
  have HR1 := Aside0.mk hr1
  have HC1 := Aside0.mk hc1
  clear hr1 hc1
  have H : (if (l0.length : Int) = (l1.length : Int) then (abugidaref02_SameTexts.l0 k l0 l1 0) else (some false)) = some r := h
  clear h
  by_cases c3 : (l0.length : Int) = (l1.length : Int)
  · rw [if_pos c3] at H
    have c3b0 : ((l0.length : Int) == (l1.length : Int)) = true := beq_iff_eq.mpr c3
    have c3b1 : ((l0.length : Int) != (l1.length : Int)) = false := bne_eq_false_iff_eq.mpr c3
    have c3b2 : (l0.length == l1.length) = true := by first | simpa using c3 | (simp at c3 ⊢; omega)
    clear c3
    have H' := Aside0.mk H
    clear H
    go_enter Try.func21, Try.ntmps21
    go_wp2
    repeat (go_quiet (fail); try go_wp2)
    go_loopg [5] k (fun kq v5 w' => ∃ (x5_1 : Int), v5 = .int .i64 x5_1 ∧ Aside0 (abugidaref02_SameTexts.l0 kq l0 l1 x5_1 = some r) ∧ Aside0 (kq ≤ k) ∧ Drawn0 w w')
    case atStart => exact ⟨(0), (by first | rfl | (simp; done) | (simp [*]; done)), H', ⟨Nat.le_refl _⟩, by repeat (first | exact Drawn0.refl _ | apply Drawn0.step)⟩
    case round =>
      clear H'
      try clear c1
      try clear c2
      try clear p2
      try clear c3
      try clear c3b0
      try clear c3b1
      try clear c3b2
      obtain ⟨x5_1, rfl, HA, HK1, ⟨m1, rfl⟩⟩ := hrel
      cases gk with
      | zero => exact absurd HA.out (by simp [abugidaref02_SameTexts.l0])
      | succ k1 =>
        have H := HA.out
        clear HA
        simp only [abugidaref02_SameTexts.l0] at H
        by_cases c4 : x5_1 < (l0.length : Int)
        · rw [if_pos c4] at H
          have c4b0 : decide (x5_1 < (l0.length : Int)) = true := decide_eq_true c4
          clear c4
          by_cases c5 : 0 ≤ x5_1
          · rw [if_pos c5] at H
            have c5b0 : decide (0 ≤ x5_1) = true := decide_eq_true c5
            clear c5
            by_cases c6 : x5_1 < (l1.length : Int)
            · rw [if_pos c6] at H
              have c6b0 : decide (x5_1 < (l1.length : Int)) = true := decide_eq_true c6
              clear c6
              by_cases c7 : (rdOf ByteArray.empty l0 x5_1).toList = (rdOf ByteArray.empty l1 x5_1).toList
              · rw [if_pos c7] at H
                have c7b0 : ((rdOf ByteArray.empty l0 x5_1).toList == (rdOf ByteArray.empty l1 x5_1).toList) = true := beq_iff_eq.mpr c7
                have c7b1 : ((rdOf ByteArray.empty l0 x5_1).toList != (rdOf ByteArray.empty l1 x5_1).toList) = false := bne_eq_false_iff_eq.mpr c7
                clear c7
                have H' := Aside0.mk H
                clear H
                have p121 : 0 ≤ (x5_1 : Int) := of_decide_eq_true (by first | (with_reducible assumption) | assumption)
                have q121 : x5_1 < (l0.length : Int) := of_decide_eq_true (by first | (with_reducible assumption) | assumption)
                obtain ⟨ad121, e121, hx121_0⟩ := Kd.at_string HR0.out x5_1 p121 q121
                cases e121
                replace p121 := eq_true p121
                replace q121 := eq_true q121
                have p122 : 0 ≤ (x5_1 : Int) := of_decide_eq_true (by first | (with_reducible assumption) | assumption)
                have q122 : x5_1 < (l1.length : Int) := of_decide_eq_true (by first | (with_reducible assumption) | assumption)
                obtain ⟨ad122, e122, hx122_0⟩ := Kd.at_string HR1.out x5_1 p122 q122
                cases e122
                replace p122 := eq_true p122
                replace q122 := eq_true q122
                go_wp2
                repeat (go_quiet (fail); try go_wp2)
                go_roundg k1
                case measure => have := HK1.out; omega
                case rel => exact ⟨(wrap64 (x5_1 + 1)), (by first | rfl | (simp; done) | (simp [*]; done)), H', ⟨by have := HK1.out; omega⟩, by repeat (first | exact Drawn0.refl _ | apply Drawn0.step)⟩
              · rw [if_neg c7] at H
                have c7b0 : ((rdOf ByteArray.empty l0 x5_1).toList == (rdOf ByteArray.empty l1 x5_1).toList) = false := beq_eq_false_iff_ne.mpr c7
                have c7b1 : ((rdOf ByteArray.empty l0 x5_1).toList != (rdOf ByteArray.empty l1 x5_1).toList) = true := bne_iff_ne.mpr c7
                obtain rfl := Option.some.inj H
                have p121 : 0 ≤ (x5_1 : Int) := of_decide_eq_true (by first | (with_reducible assumption) | assumption)
                have q121 : x5_1 < (l0.length : Int) := of_decide_eq_true (by first | (with_reducible assumption) | assumption)
                obtain ⟨ad121, e121, hx121_0⟩ := Kd.at_string HR0.out x5_1 p121 q121
                cases e121
                replace p121 := eq_true p121
                replace q121 := eq_true q121
                have p122 : 0 ≤ (x5_1 : Int) := of_decide_eq_true (by first | (with_reducible assumption) | assumption)
                have q122 : x5_1 < (l1.length : Int) := of_decide_eq_true (by first | (with_reducible assumption) | assumption)
                obtain ⟨ad122, e122, hx122_0⟩ := Kd.at_string HR1.out x5_1 p122 q122
                cases e122
                replace p122 := eq_true p122
                replace q122 := eq_true q122
                go_wp2
                repeat (go_quiet (fail); try go_wp2)
                go_ret
                exact ⟨by first | rfl | (simp; done) | (simp [*]; done), by repeat (first | exact Drawn0.refl _ | apply Drawn0.step)⟩
            · rw [if_neg c6] at H
              exact absurd H (by simp)
          · rw [if_neg c5] at H
            exact absurd H (by simp)
        · rw [if_neg c4] at H
          have c4b0 : decide (x5_1 < (l0.length : Int)) = false := decide_eq_false c4
          clear c4
          obtain rfl := Option.some.inj H
          go_wp2
          repeat (go_quiet (fail); try go_wp2)
          go_ret
          exact ⟨by first | rfl | (simp; done) | (simp [*]; done), by repeat (first | exact Drawn0.refl _ | apply Drawn0.step)⟩
  · rw [if_neg c3] at H
    have c3b0 : ((l0.length : Int) == (l1.length : Int)) = false := beq_eq_false_iff_ne.mpr c3
    have c3b1 : ((l0.length : Int) != (l1.length : Int)) = true := bne_iff_ne.mpr c3
    have c3b2 : (l0.length == l1.length) = false := by first | simpa using c3 | (simp at c3 ⊢; omega)
    obtain rfl := Option.some.inj H
    go_enter Try.func21, Try.ntmps21
    go_wp2
    repeat (go_quiet (fail); try go_wp2)
    go_ret
    exact ⟨by first | rfl | (simp; done) | (simp [*]; done), by repeat (first | exact Drawn0.refl _ | apply Drawn0.step)⟩

end Go.Proofs.Ytoleencecfjcjaa.Pb



/- The shelf's contracts for strings.Builder, laid over this program's numbers. -/
set_option linter.unusedVariables false
namespace Go.Proofs.Ytoleencecfjcjaa.Bd
open Go.Shelf Go.RowKit
def nums : Ren := ⟨fun n => match n with | 166 => 74 | 240 => 81 | 276 => 83 | 169 => 75 | _ => 0, fun n => match n with | 0 => 0 | 3 => 3 | 4 => 4 | 9 => 9 | 20 => 20 | 37 => 83 | 70 => 129 | 72 => 131 | 75 => 133 | 164 => 146 | 127 => 143 | 5 => 5 | 80 => 136 | _ => 0, fun n => n⟩
set_option maxRecDepth 100000 in
theorem lays166 : Lays.n166 Try.prog nums := {
  mixed := by kernel_rfl,
  f166 := by kernel_rfl,
  f240 := by kernel_rfl,
  f276 := by kernel_rfl,
  t0 := by kernel_rfl,
  a0 := fun _ => by kernel_rfl,
  z0 := fun _ => by kernel_rfl,
  v0 := fun _ => by kernel_rfl,
  t3 := by kernel_rfl,
  a3 := fun _ => by kernel_rfl,
  z3 := fun _ => by kernel_rfl,
  v3 := fun _ => by kernel_rfl,
  t4 := by kernel_rfl,
  a4 := fun _ => by kernel_rfl,
  z4 := fun _ => by kernel_rfl,
  v4 := fun _ => by kernel_rfl,
  t9 := by kernel_rfl,
  a9 := fun _ => by kernel_rfl,
  z9 := fun _ => by kernel_rfl,
  v9 := fun _ => by kernel_rfl,
  t20 := by kernel_rfl,
  a20 := fun _ => by kernel_rfl,
  z20 := fun _ => by kernel_rfl,
  v20 := fun _ => by kernel_rfl,
  t37 := by kernel_rfl,
  a37 := fun _ => by kernel_rfl,
  z37 := fun _ => by kernel_rfl,
  v37 := fun _ => by kernel_rfl,
  t70 := by kernel_rfl,
  a70 := fun _ => by kernel_rfl,
  z70 := fun _ => by kernel_rfl,
  v70 := fun _ => by kernel_rfl,
  t72 := by kernel_rfl,
  a72 := fun _ => by kernel_rfl,
  z72 := fun _ => by kernel_rfl,
  v72 := fun _ => by kernel_rfl,
  t75 := by kernel_rfl,
  a75 := fun _ => by kernel_rfl,
  z75 := fun _ => by kernel_rfl,
  v75 := fun _ => by kernel_rfl,
  t164 := by kernel_rfl,
  a164 := fun _ => by kernel_rfl,
  z164 := fun _ => by kernel_rfl,
  v164 := fun _ => by kernel_rfl }
set_option maxRecDepth 100000 in
theorem lays169 : Lays.n169 Try.prog nums := {
  mixed := by kernel_rfl,
  f169 := by kernel_rfl,
  t0 := by kernel_rfl,
  a0 := fun _ => by kernel_rfl,
  z0 := fun _ => by kernel_rfl,
  v0 := fun _ => by kernel_rfl,
  t3 := by kernel_rfl,
  a3 := fun _ => by kernel_rfl,
  z3 := fun _ => by kernel_rfl,
  v3 := fun _ => by kernel_rfl,
  t9 := by kernel_rfl,
  a9 := fun _ => by kernel_rfl,
  z9 := fun _ => by kernel_rfl,
  v9 := fun _ => by kernel_rfl,
  t37 := by kernel_rfl,
  a37 := fun _ => by kernel_rfl,
  z37 := fun _ => by kernel_rfl,
  v37 := fun _ => by kernel_rfl,
  t70 := by kernel_rfl,
  a70 := fun _ => by kernel_rfl,
  z70 := fun _ => by kernel_rfl,
  v70 := fun _ => by kernel_rfl,
  t72 := by kernel_rfl,
  a72 := fun _ => by kernel_rfl,
  z72 := fun _ => by kernel_rfl,
  v72 := fun _ => by kernel_rfl,
  t127 := by kernel_rfl,
  a127 := fun _ => by kernel_rfl,
  z127 := fun _ => by kernel_rfl,
  v127 := fun _ => by kernel_rfl }
set_option maxRecDepth 100000 in
theorem extra : Builder.Extra Try.prog nums := {
  sizeBuilder := by kernel_rfl,
  liesBuilder := by kernel_rfl,
  t5 := by kernel_rfl,
  a5 := fun _ => by kernel_rfl,
  z5 := fun _ => by kernel_rfl,
  v5 := fun _ => by kernel_rfl,
  infoByte := by kernel_rfl,
  cellsByte := by kernel_rfl,
  sizeByte := by kernel_rfl,
  neB5 := by decide }
theorem writeString (B b : Nat) (bs : List Value) (s : ByteArray) (w : World) (h : Lib.IsBuilderF 131 5 B b bs w) (hlen : bs.length + s.size ≤ 140737488355328) (hBw : B ≤ w.heap.size) :
    Calls Try.prog 74 #[.pointer (some ⟨b, 0, none⟩), .string s] w fun e w' => e = .returned (.tuple #[.int .i64 (s.size : Int), .nilIface]) ∧ (Lib.BuilderAtF 131 5 B b (.pointer (some ⟨b, 0, none⟩)) (bs ++ Lib.byteCells s.data.toList) w' ∧ Below B w w' ∧ Lib.OthersKept 5 (some b) w w') :=
  Any.Builder_WriteString_k lays166 extra B b bs s w h hlen hBw
theorem toString_any (B b : Nat) (l : List UInt8) (w : World) (h : Lib.IsBuilderF 131 5 B b (Lib.byteCells l) w) (hBw : B ≤ w.heap.size) :
    Calls Try.prog 75 #[.pointer (some ⟨b, 0, none⟩)] w fun e w' => e = .returned (.string ⟨l.toArray⟩) ∧ Below B w w' :=
  (Any.Builder_String_any_k lays169 extra B b l w h hBw).mono fun e w' h => ⟨h.1, h.2.2.1⟩
end Go.Proofs.Ytoleencecfjcjaa.Bd


/- wire.list, for numbers and for strings; wire.Ints and wire.Texts. -/
set_option linter.unusedVariables false
set_option linter.unusedSimpArgs false
namespace Go.Proofs.Ytoleencecfjcjaa.Gw
open Go.RowKit Go.Proofs.YtoleencecfjcjaaW.PrintWords Go.Proofs.Ytoleencecfjcjaa.Pb
/-- The bytes of the elements, one behind the other, behind what stands there. -/
def cat {α : Type} (g : α → Option ByteArray) : List α → List UInt8 → Option (List UInt8)
  | [], acc => some acc
  | x :: xs, acc => (g x).bind fun s => if acc.length + s.size ≤ 140737488355328 then cat g xs (acc ++ s.data.toList) else none
def listF {α : Type} (hd : Int → Option ByteArray) (g : α → Option ByteArray) (l : List α) : Option ByteArray :=
  (hd l.length).bind fun h => if h.size ≤ 140737488355328 then (cat g l h.data.toList).bind fun r => some ⟨r.toArray⟩ else none
theorem builder_below {T e : TypeId} {B b : Nat} {bs : List Value} {w w' : World} (h : Lib.IsBuilderF T e B b bs w) (hb : Below w.heap.size w w') : Lib.IsBuilderF T e B b bs w' := by
  have key : ∀ p, Lib.BuilderAtF T e B b p bs w → Lib.BuilderAtF T e B b p bs w' := by
    intro p h
    have hlt := h.lt
    obtain ⟨h1, v, h2, h3, h4⟩ := h
    exact ⟨h1, v, (hb.block _ hlt).trans h2, h3.kept (grown_of_below hb none) (by cases v.ownBlock <;> simp), h4⟩
  exact h.imp (key _) (key _)
/-- The world while a list is written: the builder holds what is written. -/
def LI (B : Nat) (w : World) (acc : List UInt8) (W : World) : Prop := Lib.IsBuilderF 131 5 B B (Lib.byteCells acc) W ∧ Below B w W
theorem LI.call {B : Nat} {w W W' : World} {acc : List UInt8} (h : LI B w acc W) (hB : B ≤ W.heap.size) (hb : Below W.heap.size W W') : LI B w acc W' :=
  ⟨builder_below h.1 hb, h.2.trans (hb.mono hB)⟩
set_option maxRecDepth 100000 in
set_option maxHeartbeats 1000000 in
theorem list_int (k : Nat) (A : Option Addr) (c : Nat) (l : List Int) (r : ByteArray) (w : World) (hr : Kd.C (Kd.int .i64) w A l.length l) (h : listF (wire_Int.f k) (wire_Int.f k) l = some r) :
    Calls Try.prog 61 #[.slice A l.length c, .func (.func 47) #[] #[]] w fun e w' => e = .returned (.string r) ∧ Below w.heap.size w w' := by
  have hl : l.length ≤ 9223372036854775807 := hr.2.1
  obtain ⟨hd, hhd, h⟩ := Option.bind_eq_some_iff.1 h
  by_cases chd : hd.size ≤ 140737488355328
  case neg => rw [if_neg chd] at h; cases h
  rw [if_pos chd] at h
  obtain ⟨res, hres, h⟩ := Option.bind_eq_some_iff.1 h
  have HR0 := Lib.hid hr
  have HHD := Lib.hid hhd
  have HRES := Lib.hid hres
  have HEQ := Lib.hid h
  have hfr := Lib.IsBuilderF.of (Lib.fresh_isBuilder 131 5 w)
  have hbf : Below w.heap.size w (w.alloc (.cells #[.pointer none, .slice none 0 0] 131)) := (Below.refl _ _).alloc (Nat.le_refl _) _
  have HFR := Lib.hid hfr
  clear hr hhd hres h hfr
  go_enter Try.func61, Try.ntmps61
  go_wp2_with (first
    | (go_at_call 47; refine (wire_Int.calls k _ hd _ HHD.out).mono ?_; rintro e w1 ⟨rfl, hb1⟩; have hI1 := builder_below HFR.out hb1; have HI1 := Lib.hid hI1; clear hI1; have hB1 := hbf.trans (hb1.mono (by simp)))
    | (go_at_call 74; refine (Bd.writeString w.heap.size w.heap.size [] hd _ HI1.out (by simpa using chd) hB1.size).mono ?_; rintro e w2 ⟨rfl, hI2, hb2, -⟩; have HI2 := Lib.hid hI2; clear hI2))
  go_loopw [14] (fun i wr => ∃ (n : Nat) (acc : List UInt8), n ≤ l.length ∧ i = .int .i64 n ∧ LI w.heap.size w acc wr ∧ acc.length ≤ 140737488355328 ∧ cat (wire_Int.f k) (l.drop n) acc = some res) (fun i _ => l.length - (intOf i).toNat)
  case atStart =>
    refine ⟨0, hd.data.toList, Nat.zero_le _, rfl, ⟨.inr ?_, hB1.trans hb2⟩, by simpa using chd, HRES.out⟩
    simpa using HI2.out
  case round =>
    obtain ⟨n, acc, hn, rfl, hI, hacc, hcat⟩ := hrel
    have hsz := hI.2.size
    by_cases hlt : n < l.length
    · obtain ⟨ad, rfl, hcell⟩ := Kd.at_int (Kd.C_below HR0.out hI.2) (n : Int) (by omega) (by omega)
      have hget : l[n]? = some (rd l (n : Int)) := by simp [rd, List.getD_eq_getElem?_getD, List.getElem?_eq_getElem hlt]
      have hdr : l.drop n = rd l (n : Int) :: l.drop (n + 1) := by
        rw [List.drop_eq_getElem_cons hlt]
        rw [List.getElem?_eq_getElem hlt] at hget
        rw [Option.some.inj hget]
      rw [hdr] at hcat
      unfold cat at hcat
      obtain ⟨s, hs, hcat⟩ := Option.bind_eq_some_iff.1 hcat
      by_cases cs : acc.length + s.size ≤ 140737488355328
      case neg => rw [if_neg cs] at hcat; cases hcat
      rw [if_pos cs] at hcat
      have HS := Lib.hid hs
      have HC := Lib.hid hcat
      have HI := Lib.hid hI
      clear hs hcat hI hget hdr
      rw [Int.toNat_natCast] at hcell
      generalize rd l (n : Int) = x at *
      go_wp2_with (first
        | (go_at_call 47; refine (wire_Int.calls k x s _ HS.out).mono ?_; rintro e w3 ⟨rfl, hb3⟩; have hI3 := (HI.out.call hsz hb3); have HI3 := Lib.hid hI3; clear hI3)
        | (go_at_call 74; refine (Bd.writeString w.heap.size w.heap.size _ s _ HI3.out.1 (by rw [Lib.byteCells_length]; exact cs) HI3.out.2.size).mono ?_; rintro e w4 ⟨rfl, hI4, hb4, -⟩; have HI4 := Lib.hid hI4; clear hI4))
      go_roundw
      case rel =>
        refine ⟨n + 1, acc ++ s.data.toList, by omega, by go_num, ⟨.inr ?_, HI3.out.2.trans hb4⟩, by simpa using cs, HC.out⟩
        rw [Lib.byteCells_append]; exact HI4.out
      case measure => simp [intOf]; omega
    · rw [List.drop_of_length_le (by omega)] at hcat
      obtain rfl := Option.some.inj hcat
      have HI := Lib.hid hI
      clear hI hcat
      go_wp2_with (go_at_call 75; refine (Bd.toString_any w.heap.size w.heap.size acc _ HI.out.1 hsz).mono ?_; rintro e w5 ⟨rfl, hb5⟩)
      go_ret
      have hq := HEQ.out
      obtain rfl := Option.some.inj hq
      exact ⟨rfl, HI.out.2.trans hb5⟩
end Go.Proofs.Ytoleencecfjcjaa.Gw

/- wire.Ints and wire.Texts; wire.read, and the reader's lists. -/
set_option linter.unusedVariables false
set_option linter.unusedSimpArgs false
namespace Go.Proofs.Ytoleencecfjcjaa.Gw
open Go.RowKit Go.Proofs.YtoleencecfjcjaaW.PrintWords Go.Proofs.Ytoleencecfjcjaa.Pb
def wire_Ints.f (k : Nat) (l0 : List Int) : Option ByteArray := listF (wire_Int.f k) (wire_Int.f k) l0
theorem wire_Ints.calls (k : Nat) (A0 : Option Addr) (c0 : Nat) (l0 : List Int) (r : ByteArray) (w : World) (hr0 : Kd.C (Kd.int .i64) w A0 l0.length l0) (hc0 : l0.length ≤ c0) (h : wire_Ints.f k l0 = some r) :
    Calls Try.prog 48 #[.slice A0 l0.length c0] w fun e w' => e = .returned (.string r) ∧ Below w.heap.size w w' := by
  have HR := Lib.hid hr0
  have HH := Lib.hid h
  clear hr0 h
  go_enter Try.func48, Try.ntmps48
  go_wp2_with (go_at_call 61; refine (list_int k A0 c0 l0 r _ HR.out HH.out).mono ?_; rintro e w1 ⟨rfl, hb1⟩)
  go_ret
  exact ⟨rfl, hb1⟩
end Go.Proofs.Ytoleencecfjcjaa.Gw


/- The bytes of a number: what is written, and read again. Plain law. -/
set_option linter.unusedVariables false
set_option linter.unusedSimpArgs false
namespace Go.Proofs.Ytoleencecfjcjaa.Pure
open Go.RowKit Go.Proofs.Ytoleencecfjcjaa.Pb Go.Proofs.YtoleencecfjcjaaW.PrintWords Go.Proofs.YtoleencecfjcjaaW.PrintLast Go.Proofs.YtoleencecfjcjaaW.PrintMore Go.Proofs.Ytoleencecfjcjaa.Gw
theorem evI {α : Type} {c : Prop} [Decidable c] {A B : Nat → Option α} {r : α} (h : c) (k : Ev A r) : Ev (fun n => if c then A n else B n) r := Ev.congr (fun _ => if_pos h) k
theorem evN {α : Type} {c : Prop} [Decidable c] {A B : Nat → Option α} {r : α} (h : ¬ c) (k : Ev B r) : Ev (fun n => if c then A n else B n) r := Ev.congr (fun _ => if_neg h) k
theorem w64 {x : Int} (h0 : -9223372036854775808 ≤ x) (h1 : x < 9223372036854775808) : wrap64 x = x := by unfold wrap64; omega
/-- The bytes of a code. -/
def vb (c : Nat) : List Nat := if h : c < 128 then [c] else (c % 128 + 128) :: vb (c / 128)
  termination_by c
  decreasing_by omega
def nums (l : List Nat) : ByteArray := strOfNums (l.map Int.ofNat)
end Go.Proofs.Ytoleencecfjcjaa.Pure

/- A number is read again as it was written, with what stands behind it. Plain law. -/
set_option linter.unusedVariables false
set_option linter.unusedSimpArgs false
namespace Go.Proofs.Ytoleencecfjcjaa.Pure
open Go.RowKit Go.Proofs.Ytoleencecfjcjaa.Pb Go.Proofs.YtoleencecfjcjaaW.PrintWords Go.Proofs.YtoleencecfjcjaaW.PrintLast Go.Proofs.YtoleencecfjcjaaW.PrintMore Go.Proofs.Ytoleencecfjcjaa.Gw
end Go.Proofs.Ytoleencecfjcjaa.Pure

/- Lists and strings: what is written. Plain law. -/
set_option linter.unusedVariables false
set_option linter.unusedSimpArgs false
namespace Go.Proofs.Ytoleencecfjcjaa.Pure
open Go.RowKit Go.Proofs.Ytoleencecfjcjaa.Pb Go.Proofs.YtoleencecfjcjaaW.PrintWords Go.Proofs.YtoleencecfjcjaaW.PrintLast Go.Proofs.YtoleencecfjcjaaW.PrintMore Go.Proofs.Ytoleencecfjcjaa.Gw
theorem rd_some' {l : List ByteArray} {i : Nat} {s : ByteArray} (h : l[i]? = some s) : rdOf ByteArray.empty l (i : Int) = s := by
  simp [rdOf, List.getD_eq_getElem?_getD, h]
theorem get_some {α : Type} {l : List α} {i : Nat} (h : i < l.length) : ∃ s, l[i]? = some s := ⟨l[i], List.getElem?_eq_getElem h⟩
end Go.Proofs.Ytoleencecfjcjaa.Pure

/- Lists and strings are read again as they were written. Plain law. -/
set_option linter.unusedVariables false
set_option linter.unusedSimpArgs false
namespace Go.Proofs.Ytoleencecfjcjaa.Pure
open Go.RowKit Go.Proofs.Ytoleencecfjcjaa.Pb Go.Proofs.YtoleencecfjcjaaW.PrintWords Go.Proofs.YtoleencecfjcjaaW.PrintLast Go.Proofs.YtoleencecfjcjaaW.PrintMore Go.Proofs.Ytoleencecfjcjaa.Gw
end Go.Proofs.Ytoleencecfjcjaa.Pure

-- Printed for this claim by its own gprint.py, over contracts proved by hand; not trusted: Lean checks it.
namespace Go.Proofs.Ytoleencecfjcjaa.Pn
open Go.RowKit Go.Proofs.YtoleencecfjcjaaW.PrintWords Go.Proofs.YtoleencecfjcjaaW.PrintLast Go.Proofs.YtoleencecfjcjaaW.PrintMore
open Go.Proofs.Ytoleencecfjcjaa.Pb
open Go.Proofs.Ytoleencecfjcjaa.Gw
attribute [local go_sem] max2_int min2_int max_two min_two max_three min_three max_four min_four   -- for this text's walks alone
set_option linter.unusedVariables false
set_option linter.unusedSimpArgs false



def errW : Option Int → Value
  | none => .nilIface
  | some c => .iface 0 (.int .i64 c)
theorem errW_none : errW none = .nilIface := rfl
theorem errW_some (c : Int) : errW (some c) = .iface 0 (.int .i64 c) := rfl

end Go.Proofs.Ytoleencecfjcjaa.Pn

-- Printed for this claim by its own gprint.py, over contracts proved by hand; not trusted: Lean checks it.
namespace Go.Proofs.Ytoleencecfjcjaa.Pn
open Go.RowKit Go.Proofs.YtoleencecfjcjaaW.PrintWords Go.Proofs.YtoleencecfjcjaaW.PrintLast Go.Proofs.YtoleencecfjcjaaW.PrintMore
open Go.Proofs.Ytoleencecfjcjaa.Pb
open Go.Proofs.Ytoleencecfjcjaa.Gw
attribute [local go_sem] max2_int min2_int max_two min_two max_three min_three max_four min_four   -- for this text's walks alone
set_option linter.unusedVariables false
set_option linter.unusedSimpArgs false

-- GIVEN: function 46 (wire_Text)

-- GIVEN: function 47 (wire_Int)

-- GIVEN: function 48 (wire_Ints)

/-! ### atlas_Name: function 26 -/
def atlas_Name.f (k : Nat) (a0 : ByteArray) (a1 : Int) (l2 : List Int) (a3_0 : Int) (l3_1 : List Int) (a3_2 : Int) : Option (ByteArray) := (wire_Text.f k a0).bind fun t102 => ((wire_Int.f k a1).bind fun t103 => (if t102.size + t103.size ≤ 9223372036854775807 then ((wire_Ints.f k l2).bind fun t104 => (if (t102 ++ t103).size + t104.size ≤ 9223372036854775807 then ((wire_Int.f k a3_0).bind fun t105 => (if ((t102 ++ t103) ++ t104).size + t105.size ≤ 9223372036854775807 then ((wire_Ints.f k l3_1).bind fun t106 => (if (((t102 ++ t103) ++ t104) ++ t105).size + t106.size ≤ 9223372036854775807 then (some ((((t102 ++ t103) ++ t104) ++ t105) ++ t106)) else (none))) else (none))) else (none))) else (none)))
def atlas_Name.T1 : Bool × List (List Nat × List Nat) := (true, [([], []), ([0], [0]), ([], []), ([2, 1], [2]), ([1, 3], [1, 3]), ([], []), ([5, 3], [5]), ([4, 6], [4, 6]), ([], []), ([8], [8]), ([9, 6], [9]), ([7, 10], [7, 10]), ([], []), ([12], [12]), ([13, 10], [13]), ([11, 14], [11, 14]), ([15, 14, 0, 1, 2, 3, 4, 5, 6, 7, 8, 9, 10, 11, 12, 13, 14, 15], [15])])
def atlas_Name.B1 : List Nat := [0, 1, 0, 7, 15, 0, 47, 127, 0, 256, 879, 2047, 0, 4096, 14191, 32767, 65535]
theorem atlas_Name.tab1 : rtab .any (opsOf Try.f26 1) = atlas_Name.T1 := by kernel_rfl
theorem atlas_Name.bits1 : waitsOk atlas_Name.T1.2 atlas_Name.B1 = true := by kernel_rfl
set_option maxHeartbeats 8000000 in
set_option maxRecDepth 100000 in
theorem atlas_Name.calls (k : Nat) (a0 : ByteArray) (a1 : Int) (A2 : Option Addr) (c2 : Nat) (l2 : List Int) (a3_0 : Int) (A3_1 : Option Addr) (c3_1 : Nat) (l3_1 : List Int) (a3_2 : Int) (r : ByteArray) (w : World) (hr2 : Kd.C (Kd.int .i64) w A2 l2.length l2) (hc2 : l2.length ≤ c2) (hr3_1 : Kd.C (Kd.int .i64) w A3_1 l3_1.length l3_1) (hc3_1 : l3_1.length ≤ c3_1) (h : atlas_Name.f k a0 a1 l2 a3_0 l3_1 a3_2 = some r) :
    Calls Try.prog 26 #[.string a0, .int .i64 a1, .slice A2 l2.length c2, .agg #[.int .i64 a3_0, .slice A3_1 l3_1.length c3_1, .int .i64 a3_2]] w fun e w' => e = .returned (.string r) ∧ Below w.heap.size w w' := by
  have hu71 := Try.underlying71
  have HR2 := Aside0.mk hr2
  have HC2 := Aside0.mk hc2
  clear hr2 hc2
  have HR3_1 := Aside0.mk hr3_1
  have HC3_1 := Aside0.mk hc3_1
  clear hr3_1 hc3_1
  have HB := Aside0.mk (Below.refl w.heap.size w)
  have H : ((wire_Text.f k a0).bind fun t102 => ((wire_Int.f k a1).bind fun t103 => (if t102.size + t103.size ≤ 9223372036854775807 then ((wire_Ints.f k l2).bind fun t104 => (if (t102 ++ t103).size + t104.size ≤ 9223372036854775807 then ((wire_Int.f k a3_0).bind fun t105 => (if ((t102 ++ t103) ++ t104).size + t105.size ≤ 9223372036854775807 then ((wire_Ints.f k l3_1).bind fun t106 => (if (((t102 ++ t103) ++ t104) ++ t105).size + t106.size ≤ 9223372036854775807 then (some ((((t102 ++ t103) ++ t104) ++ t105) ++ t106)) else (none))) else (none))) else (none))) else (none)))) = some r := h
  clear h
  replace H := Option.bind_eq_some_iff.mp H
  obtain ⟨t102, A50, H⟩ := H
  replace H : ((wire_Int.f k a1).bind fun t103 => (if t102.size + t103.size ≤ 9223372036854775807 then ((wire_Ints.f k l2).bind fun t104 => (if (t102 ++ t103).size + t104.size ≤ 9223372036854775807 then ((wire_Int.f k a3_0).bind fun t105 => (if ((t102 ++ t103) ++ t104).size + t105.size ≤ 9223372036854775807 then ((wire_Ints.f k l3_1).bind fun t106 => (if (((t102 ++ t103) ++ t104) ++ t105).size + t106.size ≤ 9223372036854775807 then (some ((((t102 ++ t103) ++ t104) ++ t105) ++ t106)) else (none))) else (none))) else (none))) else (none))) = some r := H
  have A5 := Aside0.mk A50
  clear A50
  replace H := Option.bind_eq_some_iff.mp H
  obtain ⟨t103, A60, H⟩ := H
  replace H : (if t102.size + t103.size ≤ 9223372036854775807 then ((wire_Ints.f k l2).bind fun t104 => (if (t102 ++ t103).size + t104.size ≤ 9223372036854775807 then ((wire_Int.f k a3_0).bind fun t105 => (if ((t102 ++ t103) ++ t104).size + t105.size ≤ 9223372036854775807 then ((wire_Ints.f k l3_1).bind fun t106 => (if (((t102 ++ t103) ++ t104) ++ t105).size + t106.size ≤ 9223372036854775807 then (some ((((t102 ++ t103) ++ t104) ++ t105) ++ t106)) else (none))) else (none))) else (none))) else (none)) = some r := H
  have A6 := Aside0.mk A60
  clear A60
  by_cases c7 : t102.size + t103.size ≤ 9223372036854775807
  · rw [if_pos c7] at H
    have c7b0 := eq_true c7
    have c7b1 : decide (t102.size + t103.size ≤ 9223372036854775807) = true := decide_eq_true c7
    try have c7b2 : (9223372036854775807 < t102.size + t103.size) = False := eq_false (Nat.not_lt.2 c7)
    replace H := Option.bind_eq_some_iff.mp H
    obtain ⟨t104, A80, H⟩ := H
    replace H : (if (t102 ++ t103).size + t104.size ≤ 9223372036854775807 then ((wire_Int.f k a3_0).bind fun t105 => (if ((t102 ++ t103) ++ t104).size + t105.size ≤ 9223372036854775807 then ((wire_Ints.f k l3_1).bind fun t106 => (if (((t102 ++ t103) ++ t104) ++ t105).size + t106.size ≤ 9223372036854775807 then (some ((((t102 ++ t103) ++ t104) ++ t105) ++ t106)) else (none))) else (none))) else (none)) = some r := H
    have A8 := Aside0.mk A80
    clear A80
    by_cases c9 : (t102 ++ t103).size + t104.size ≤ 9223372036854775807
    · rw [if_pos c9] at H
      have c9b0 := eq_true c9
      have c9b1 : decide ((t102 ++ t103).size + t104.size ≤ 9223372036854775807) = true := decide_eq_true c9
      try have c9b2 : (9223372036854775807 < (t102 ++ t103).size + t104.size) = False := eq_false (Nat.not_lt.2 c9)
      try (have c9e := c9; simp only [ByteArray.size_append] at c9e; have c9e1 := eq_true c9e; have c9e2 := eq_false (Nat.not_lt.2 c9e); clear c9e)
      replace H := Option.bind_eq_some_iff.mp H
      obtain ⟨t105, A100, H⟩ := H
      replace H : (if ((t102 ++ t103) ++ t104).size + t105.size ≤ 9223372036854775807 then ((wire_Ints.f k l3_1).bind fun t106 => (if (((t102 ++ t103) ++ t104) ++ t105).size + t106.size ≤ 9223372036854775807 then (some ((((t102 ++ t103) ++ t104) ++ t105) ++ t106)) else (none))) else (none)) = some r := H
      have A10 := Aside0.mk A100
      clear A100
      by_cases c11 : ((t102 ++ t103) ++ t104).size + t105.size ≤ 9223372036854775807
      · rw [if_pos c11] at H
        have c11b0 := eq_true c11
        have c11b1 : decide (((t102 ++ t103) ++ t104).size + t105.size ≤ 9223372036854775807) = true := decide_eq_true c11
        try have c11b2 : (9223372036854775807 < ((t102 ++ t103) ++ t104).size + t105.size) = False := eq_false (Nat.not_lt.2 c11)
        try (have c11e := c11; simp only [ByteArray.size_append] at c11e; have c11e1 := eq_true c11e; have c11e2 := eq_false (Nat.not_lt.2 c11e); clear c11e)
        replace H := Option.bind_eq_some_iff.mp H
        obtain ⟨t106, A120, H⟩ := H
        replace H : (if (((t102 ++ t103) ++ t104) ++ t105).size + t106.size ≤ 9223372036854775807 then (some ((((t102 ++ t103) ++ t104) ++ t105) ++ t106)) else (none)) = some r := H
        have A12 := Aside0.mk A120
        clear A120
        by_cases c13 : (((t102 ++ t103) ++ t104) ++ t105).size + t106.size ≤ 9223372036854775807
        · rw [if_pos c13] at H
          have c13b0 := eq_true c13
          have c13b1 : decide ((((t102 ++ t103) ++ t104) ++ t105).size + t106.size ≤ 9223372036854775807) = true := decide_eq_true c13
          try have c13b2 : (9223372036854775807 < (((t102 ++ t103) ++ t104) ++ t105).size + t106.size) = False := eq_false (Nat.not_lt.2 c13)
          try (have c13e := c13; simp only [ByteArray.size_append] at c13e; have c13e1 := eq_true c13e; have c13e2 := eq_false (Nat.not_lt.2 c13e); clear c13e)
          obtain rfl := Option.some.inj H
          go_enter Try.func26, Try.ntmps26
          try go_wp2_with (first | ((with_reducible refine gate_dst (N := 7) rfl ?_); refine box_event ?hg (N := 7) ?hd (cs := #[.int .i64 a3_0, .slice A3_1 l3_1.length c3_1, .int .i64 a3_2]) (t := 71) ?hr ?_; (case hd => rfl); (case hg => rfl); (case hr => first | (go_simp; done) | (go_simp; rfl)); intro gb101 hg w14 hbox hb; have n0_ := Aside0.mk (below_step (by repeat (first | (with_reducible first | exact HB.out | apply below_alloc | apply pw_below_drewN | apply below_drew1) | exact HB.out)) hb); have n1_ := Aside0.mk (hbox); have n2_ := Aside0.mk ((by rw [hg]; exact (below_size (by repeat (first | (with_reducible first | exact HB.out | apply below_alloc | apply pw_below_drewN | apply below_drew1) | exact HB.out))) : w.heap.size ≤ gb101)); have n3_ := Aside0.mk ((by rw [hg]; exact (below_size (by repeat (first | (with_reducible first | exact HB.out | apply below_alloc | apply pw_below_drewN | apply below_drew1) | exact HB.out))) : w.heap.size ≤ gb101)); clear HB; have HB := n0_; have BK101 := n1_; have GW101 := n2_; have GE101 := n3_; clear n0_ n1_ n2_ n3_; clear hb hbox hg))
          have n0_ := Aside0.mk (blk_drew BK101.out)
          have n1_ := Aside0.mk (below_drew1 HB.out)
          clear BK101
          clear HB
          have BK101 := n0_
          have HB := n1_
          clear n0_ n1_
          refine start_ (n := 17) (S := fun w' => w'.cell? ⟨gb101, 0, none⟩ = some (.int .i64 a3_0) ∧ w'.cell? ⟨gb101, 1, none⟩ = some (.slice A3_1 l3_1.length c3_1) ∧ w'.cell? ⟨gb101, 2, none⟩ = some (.int .i64 a3_2)) (ds := []) #[false, false, false, false, false, false, false, false, false, false, false, false, false, false, false, false, false] (by kernel_rfl) rfl rfl ⟨(blk_cell BK101.out 0).trans rfl, (blk_cell BK101.out 1).trans rfl, (blk_cell BK101.out 2).trans rfl⟩ (fun hHeld => ?_); refine with_tabW atlas_Name.tab1 atlas_Name.bits1 (fun HT_ HW_ => ?_)
          generalize w14.drew = w15 at BK101 HB hHeld ⊢
          refine pure_ (i := 0) (N := some 9) (v := ?_) (a' := ?_) #[true, false, false, false, false, false, false, false, false, false, false, false, false, false, false, false, false] rfl rfl (any_of HT_.out (by kernel_rfl)) (fun _ _ _ h => h) (Or.inl ⟨by rfl, ?_⟩) ?_ ?_
          rotate_left
          · intro w'
            go_simp
            with_reducible rfl
          rotate_left
          · simp only [Act.put, List.setIfInBounds_toArray, List.set_cons_zero, List.set_cons_succ, i64_w, i32_w]
            rfl
          refine pure_ (i := 2) (N := some 11) (v := ?_) (a' := ?_) #[true, false, true, false, false, false, false, false, false, false, false, false, false, false, false, false, false] rfl rfl (any_of HT_.out (by kernel_rfl)) (fun _ _ _ h => h) (Or.inl ⟨by rfl, ?_⟩) ?_ ?_
          rotate_left
          · intro w'
            go_simp
            with_reducible rfl
          rotate_left
          · simp only [Act.put, List.setIfInBounds_toArray, List.set_cons_zero, List.set_cons_succ, i64_w, i32_w]
            rfl
          refine pure_ (i := 5) (N := some 14) (v := ?_) (a' := ?_) #[true, false, true, false, false, true, false, false, false, false, false, false, false, false, false, false, false] rfl rfl (any_of HT_.out (by kernel_rfl)) (fun _ _ _ h => h) (Or.inl ⟨by rfl, ?_⟩) ?_ ?_
          rotate_left
          · intro w'
            go_simp
            with_reducible rfl
          rotate_left
          · simp only [Act.put, List.setIfInBounds_toArray, List.set_cons_zero, List.set_cons_succ, i64_w, i32_w]
            rfl
          refine pure_ (i := 8) (N := some 17) (v := ?_) (a' := ?_) #[true, false, true, false, false, true, false, false, true, false, false, false, false, false, false, false, false] rfl rfl (any_of HT_.out (by kernel_rfl)) (fun _ _ _ h => h) (Or.inl ⟨by rfl, ?_⟩) ?_ ?_
          rotate_left
          · intro w'
            go_simp
            with_reducible rfl
          rotate_left
          · simp only [Act.put, List.setIfInBounds_toArray, List.set_cons_zero, List.set_cons_succ, i64_w, i32_w]
            rfl
          refine pure_ (i := 12) (N := some 21) (v := ?_) (a' := ?_) #[true, false, true, false, false, true, false, false, true, false, false, false, true, false, false, false, false] rfl rfl (any_of HT_.out (by kernel_rfl)) (fun _ _ _ h => h) (Or.inl ⟨by rfl, ?_⟩) ?_ ?_
          rotate_left
          · intro w'
            go_simp
            with_reducible rfl
          rotate_left
          · simp only [Act.put, List.setIfInBounds_toArray, List.set_cons_zero, List.set_cons_succ, i64_w, i32_w]
            rfl
          refine take_ (i := 9) (N := some 18) (v := ?_) (a' := ?_) #[true, false, true, false, false, true, false, false, true, true, false, false, true, false, false, false, false] rfl rfl (take_ofW HT_.out HW_.out (by kernel_rfl)) (fun _ _ _ h => h) (Or.inl ⟨by rfl, ?_⟩) hHeld ?_ ?_
          rotate_left
          · rintro w' ⟨s0, s1, s2⟩
            go_simp
            with_reducible rfl
          rotate_left
          · simp only [Act.put, List.setIfInBounds_toArray, List.set_cons_zero, List.set_cons_succ, i64_w, i32_w]
            rfl
          refine take_ (i := 13) (N := some 22) (v := ?_) (a' := ?_) #[true, false, true, false, false, true, false, false, true, true, false, false, true, true, false, false, false] rfl rfl (take_ofW HT_.out HW_.out (by kernel_rfl)) (fun _ _ _ h => h) (Or.inl ⟨by rfl, ?_⟩) hHeld ?_ ?_
          rotate_left
          · rintro w' ⟨s0, s1, s2⟩
            go_simp
            with_reducible rfl
          rotate_left
          · simp only [Act.put, List.setIfInBounds_toArray, List.set_cons_zero, List.set_cons_succ, i64_w, i32_w]
            rfl
          refine one_ (i := 1) (N := some 10) #[true, true, true, false, false, true, false, false, true, true, false, false, true, true, false, false, false] rfl rfl (one_of HT_.out (by kernel_rfl)) (by decide) (fun K hK => ?_)
          refine goes_ Try.func46 (by kernel_rfl) rfl #[.string a0] (by rfl) rfl rfl (by (try simp only [List.map_toArray, List.map_cons, List.map_nil]); first | done | rfl | (simp only [List.length_drop, List.length_take]; rfl)) ?_
          with_reducible refine (wire_Text.calls k a0 t102 _ A5.out).mono ?_
          rintro e w16 ⟨rfl, hb⟩
          refine ⟨_, rfl, ?_⟩
          have n0_ := Aside0.mk (blk_below (g := gb101) (o := .cells #[.int .i64 a3_0, .slice A3_1 l3_1.length c3_1, .int .i64 a3_2] 71 (0, 0)) (by (with_reducible repeat (first | refine blk_drewN ?_ _ | refine blk_drew ?_ | refine blk_alloc ?_ _)); exact BK101.out) hb)
          have n1_ := Aside0.mk (below_step (by repeat (first | (with_reducible first | exact HB.out | apply below_alloc | apply pw_below_drewN | apply below_drew1 | refine below_set ?_ GE101.out) | exact HB.out)) hb)
          clear BK101
          clear HB
          have BK101 := n0_
          have HB := n1_
          clear n0_ n1_
          (try clear hb)
          (try clear hb2)
          (try clear hk)
          (try clear hi)
          refine hK.out _ _ ⟨(blk_cell BK101.out 0).trans rfl, (blk_cell BK101.out 1).trans rfl, (blk_cell BK101.out 2).trans rfl⟩ (fun hHeld => ?_)
          clear hK K
          refine norm_ (a' := ?_) ?_ ?_
          rotate_left
          · show Act.put _ (some 10) _ = _
            simp only [Act.put, List.setIfInBounds_toArray, List.set_cons_zero, List.set_cons_succ, i64_w, i32_w]
            rfl
          refine one_ (i := 3) (N := some 12) #[true, true, true, true, false, true, false, false, true, true, false, false, true, true, false, false, false] rfl rfl (one_of HT_.out (by kernel_rfl)) (by decide) (fun K hK => ?_)
          refine goes_ Try.func47 (by kernel_rfl) rfl #[.int .i64 a1] (by rfl) rfl rfl (by (try simp only [List.map_toArray, List.map_cons, List.map_nil]); first | done | rfl | (simp only [List.length_drop, List.length_take]; rfl)) ?_
          with_reducible refine (wire_Int.calls k a1 t103 _ A6.out).mono ?_
          rintro e w17 ⟨rfl, hb⟩
          refine ⟨_, rfl, ?_⟩
          have n0_ := Aside0.mk (blk_below (g := gb101) (o := .cells #[.int .i64 a3_0, .slice A3_1 l3_1.length c3_1, .int .i64 a3_2] 71 (0, 0)) (by (with_reducible repeat (first | refine blk_drewN ?_ _ | refine blk_drew ?_ | refine blk_alloc ?_ _)); exact BK101.out) hb)
          have n1_ := Aside0.mk (below_step (by repeat (first | (with_reducible first | exact HB.out | apply below_alloc | apply pw_below_drewN | apply below_drew1 | refine below_set ?_ GE101.out) | exact HB.out)) hb)
          clear BK101
          clear HB
          have BK101 := n0_
          have HB := n1_
          clear n0_ n1_
          (try clear hb)
          (try clear hb2)
          (try clear hk)
          (try clear hi)
          refine hK.out _ _ ⟨(blk_cell BK101.out 0).trans rfl, (blk_cell BK101.out 1).trans rfl, (blk_cell BK101.out 2).trans rfl⟩ (fun hHeld => ?_)
          clear hK K
          refine norm_ (a' := ?_) ?_ ?_
          rotate_left
          · show Act.put _ (some 12) _ = _
            simp only [Act.put, List.setIfInBounds_toArray, List.set_cons_zero, List.set_cons_succ, i64_w, i32_w]
            rfl
          refine pure_ (i := 4) (N := some 13) (v := ?_) (a' := ?_) #[true, true, true, true, true, true, false, false, true, true, false, false, true, true, false, false, false] rfl rfl (any_of HT_.out (by kernel_rfl)) (fun _ _ _ h => h) (Or.inl ⟨by rfl, ?_⟩) ?_ ?_
          rotate_left
          · intro w'
            go_simp
            with_reducible rfl
          rotate_left
          · simp only [Act.put, List.setIfInBounds_toArray, List.set_cons_zero, List.set_cons_succ, i64_w, i32_w]
            rfl
          refine one_ (i := 6) (N := some 15) #[true, true, true, true, true, true, true, false, true, true, false, false, true, true, false, false, false] rfl rfl (one_of HT_.out (by kernel_rfl)) (by decide) (fun K hK => ?_)
          refine goes_ Try.func48 (by kernel_rfl) rfl #[.slice A2 l2.length c2] (by rfl) rfl rfl (by (try simp only [List.map_toArray, List.map_cons, List.map_nil]); first | done | rfl | (simp only [List.length_drop, List.length_take]; rfl)) ?_
          with_reducible refine (wire_Ints.calls k _ _ l2 t104 _ ?side1 ?side2 A8.out).mono ?_
          (case side1 => repeat (first | exact (Kd.C_below HR2.out HB.out) | (with_reducible refine Kd.C_alloc ?_ _) | (with_reducible refine Kd.C_drewN ?_ _) | (with_reducible refine Kd.C_drew ?_)))
          (case side2 => exact HC2.out)
          rintro e w18 ⟨rfl, hb⟩
          refine ⟨_, rfl, ?_⟩
          have n0_ := Aside0.mk (blk_below (g := gb101) (o := .cells #[.int .i64 a3_0, .slice A3_1 l3_1.length c3_1, .int .i64 a3_2] 71 (0, 0)) (by (with_reducible repeat (first | refine blk_drewN ?_ _ | refine blk_drew ?_ | refine blk_alloc ?_ _)); exact BK101.out) hb)
          have n1_ := Aside0.mk (below_step (by repeat (first | (with_reducible first | exact HB.out | apply below_alloc | apply pw_below_drewN | apply below_drew1 | refine below_set ?_ GE101.out) | exact HB.out)) hb)
          clear BK101
          clear HB
          have BK101 := n0_
          have HB := n1_
          clear n0_ n1_
          (try clear hb)
          (try clear hb2)
          (try clear hk)
          (try clear hi)
          refine hK.out _ _ ⟨(blk_cell BK101.out 0).trans rfl, (blk_cell BK101.out 1).trans rfl, (blk_cell BK101.out 2).trans rfl⟩ (fun hHeld => ?_)
          clear hK K
          refine norm_ (a' := ?_) ?_ ?_
          rotate_left
          · show Act.put _ (some 15) _ = _
            simp only [Act.put, List.setIfInBounds_toArray, List.set_cons_zero, List.set_cons_succ, i64_w, i32_w]
            rfl
          refine pure_ (i := 7) (N := some 16) (v := ?_) (a' := ?_) #[true, true, true, true, true, true, true, true, true, true, false, false, true, true, false, false, false] rfl rfl (any_of HT_.out (by kernel_rfl)) (fun _ _ _ h => h) (Or.inl ⟨by rfl, ?_⟩) ?_ ?_
          rotate_left
          · intro w'
            go_simp
            with_reducible rfl
          rotate_left
          · simp only [Act.put, List.setIfInBounds_toArray, List.set_cons_zero, List.set_cons_succ, i64_w, i32_w]
            rfl
          refine one_ (i := 10) (N := some 19) #[true, true, true, true, true, true, true, true, true, true, true, false, true, true, false, false, false] rfl rfl (one_of HT_.out (by kernel_rfl)) (by decide) (fun K hK => ?_)
          refine goes_ Try.func47 (by kernel_rfl) rfl #[.int .i64 a3_0] (by rfl) rfl rfl (by (try simp only [List.map_toArray, List.map_cons, List.map_nil]); first | done | rfl | (simp only [List.length_drop, List.length_take]; rfl)) ?_
          with_reducible refine (wire_Int.calls k a3_0 t105 _ A10.out).mono ?_
          rintro e w19 ⟨rfl, hb⟩
          refine ⟨_, rfl, ?_⟩
          have n0_ := Aside0.mk (blk_below (g := gb101) (o := .cells #[.int .i64 a3_0, .slice A3_1 l3_1.length c3_1, .int .i64 a3_2] 71 (0, 0)) (by (with_reducible repeat (first | refine blk_drewN ?_ _ | refine blk_drew ?_ | refine blk_alloc ?_ _)); exact BK101.out) hb)
          have n1_ := Aside0.mk (below_step (by repeat (first | (with_reducible first | exact HB.out | apply below_alloc | apply pw_below_drewN | apply below_drew1 | refine below_set ?_ GE101.out) | exact HB.out)) hb)
          clear BK101
          clear HB
          have BK101 := n0_
          have HB := n1_
          clear n0_ n1_
          (try clear hb)
          (try clear hb2)
          (try clear hk)
          (try clear hi)
          refine hK.out _ _ ⟨(blk_cell BK101.out 0).trans rfl, (blk_cell BK101.out 1).trans rfl, (blk_cell BK101.out 2).trans rfl⟩ (fun hHeld => ?_)
          clear hK K
          refine norm_ (a' := ?_) ?_ ?_
          rotate_left
          · show Act.put _ (some 19) _ = _
            simp only [Act.put, List.setIfInBounds_toArray, List.set_cons_zero, List.set_cons_succ, i64_w, i32_w]
            rfl
          refine pure_ (i := 11) (N := some 20) (v := ?_) (a' := ?_) #[true, true, true, true, true, true, true, true, true, true, true, true, true, true, false, false, false] rfl rfl (any_of HT_.out (by kernel_rfl)) (fun _ _ _ h => h) (Or.inl ⟨by rfl, ?_⟩) ?_ ?_
          rotate_left
          · intro w'
            go_simp
            with_reducible rfl
          rotate_left
          · simp only [Act.put, List.setIfInBounds_toArray, List.set_cons_zero, List.set_cons_succ, i64_w, i32_w]
            rfl
          refine one_ (i := 14) (N := some 23) #[true, true, true, true, true, true, true, true, true, true, true, true, true, true, true, false, false] rfl rfl (one_of HT_.out (by kernel_rfl)) (by decide) (fun K hK => ?_)
          refine goes_ Try.func48 (by kernel_rfl) rfl #[.slice A3_1 l3_1.length c3_1] (by rfl) rfl rfl (by (try simp only [List.map_toArray, List.map_cons, List.map_nil]); first | done | rfl | (simp only [List.length_drop, List.length_take]; rfl)) ?_
          with_reducible refine (wire_Ints.calls k _ _ l3_1 t106 _ ?side1 ?side2 A12.out).mono ?_
          (case side1 => repeat (first | exact (Kd.C_below HR3_1.out HB.out) | (with_reducible refine Kd.C_alloc ?_ _) | (with_reducible refine Kd.C_drewN ?_ _) | (with_reducible refine Kd.C_drew ?_)))
          (case side2 => exact HC3_1.out)
          rintro e w20 ⟨rfl, hb⟩
          refine ⟨_, rfl, ?_⟩
          have n0_ := Aside0.mk (blk_below (g := gb101) (o := .cells #[.int .i64 a3_0, .slice A3_1 l3_1.length c3_1, .int .i64 a3_2] 71 (0, 0)) (by (with_reducible repeat (first | refine blk_drewN ?_ _ | refine blk_drew ?_ | refine blk_alloc ?_ _)); exact BK101.out) hb)
          have n1_ := Aside0.mk (below_step (by repeat (first | (with_reducible first | exact HB.out | apply below_alloc | apply pw_below_drewN | apply below_drew1 | refine below_set ?_ GE101.out) | exact HB.out)) hb)
          clear BK101
          clear HB
          have BK101 := n0_
          have HB := n1_
          clear n0_ n1_
          (try clear hb)
          (try clear hb2)
          (try clear hk)
          (try clear hi)
          refine hK.out _ _ ⟨(blk_cell BK101.out 0).trans rfl, (blk_cell BK101.out 1).trans rfl, (blk_cell BK101.out 2).trans rfl⟩ (fun hHeld => ?_)
          clear hK K
          refine norm_ (a' := ?_) ?_ ?_
          rotate_left
          · show Act.put _ (some 23) _ = _
            simp only [Act.put, List.setIfInBounds_toArray, List.set_cons_zero, List.set_cons_succ, i64_w, i32_w]
            rfl
          refine pure_ (i := 15) (N := some 24) (v := ?_) (a' := ?_) #[true, true, true, true, true, true, true, true, true, true, true, true, true, true, true, true, false] rfl rfl (any_of HT_.out (by kernel_rfl)) (fun _ _ _ h => h) (Or.inl ⟨by rfl, ?_⟩) ?_ ?_
          rotate_left
          · intro w'
            go_simp
            with_reducible rfl
          rotate_left
          · simp only [Act.put, List.setIfInBounds_toArray, List.set_cons_zero, List.set_cons_succ, i64_w, i32_w]
            rfl
          refine pure_ (i := 16) (N := some 8) (v := ?_) (a' := ?_) #[true, true, true, true, true, true, true, true, true, true, true, true, true, true, true, true, true] rfl rfl (any_of HT_.out (by kernel_rfl)) (fun _ _ _ h => h) (Or.inl ⟨by rfl, ?_⟩) ?_ ?_
          rotate_left
          · intro w'
            go_simp
            with_reducible rfl
          rotate_left
          · simp only [Act.put, List.setIfInBounds_toArray, List.set_cons_zero, List.set_cons_succ, i64_w, i32_w]
            rfl
          refine done_ (done_of HT_.out (by kernel_rfl)) ?_
          try go_wp2
          go_ret
          exact ⟨by first | rfl | (simp [errW_none, errW_some] <;> rfl) | (simp [*, errW_none, errW_some] <;> rfl), by repeat (first | (with_reducible first | exact HB.out | apply below_alloc | apply pw_below_drewN | apply below_drew1 | refine below_set ?_ GE101.out) | exact HB.out)⟩
        · rw [if_neg c13] at H
          exact absurd H (by simp)
      · rw [if_neg c11] at H
        exact absurd H (by simp)
    · rw [if_neg c9] at H
      exact absurd H (by simp)
  · rw [if_neg c7] at H
    exact absurd H (by simp)

-- GIVEN: function 49 (abugidaref02_Text)

-- GIVEN: function 50 (abugidaref02_Int)

-- GIVEN: function 51 (abugidaref02_Ints)

/-! ### abugidaref32_Name: function 27 -/
end Go.Proofs.Ytoleencecfjcjaa.Pn

