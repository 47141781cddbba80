import Derived.Test.YthokkeljfdfppaaPbx0
import Derived.Test.YthokkeljfdfppaaPbx1
namespace Go.Proofs.Ythokkeljfdfppaa.Pb
open Go.RowKit Go.Proofs.YthokkeljfdfppaaW.PrintWords Go.Proofs.YthokkeljfdfppaaW.PrintLast Go.Proofs.YthokkeljfdfppaaW.PrintMore
attribute [local go_sem] max2_int min2_int max_two min_two max_three min_three max_four min_four   -- for this text's walks alone
set_option linter.unusedVariables false
set_option linter.unusedSimpArgs false

theorem zap10 {p : Prop} (h : p := by repeat (first | (with_reducible first | exact HBW.out | apply below_alloc | apply pw_below_drewN | apply below_drew1) | exact HBW.out)) : p := h
theorem zap9 {p : Prop} (h : p := by first | (with_reducible assumption) | assumption) : p := h
theorem zap8 {p : Prop} (h : p := by first | rfl | (simp; done) | (simp [*]; done)) : p := h
theorem zap7 {p : Prop} (h : p := by repeat (first | (with_reducible first | exact HB.out | apply below_alloc | apply pw_below_drewN | apply below_drew1 | refine below_set ?_ (IsS161.ge HI0.out)) | exact HB.out)) : p := h
theorem zap6 {p : Prop} (h : p := by repeat (first | (with_reducible first | exact HI0.out | apply IsS161.alloc | apply IsS161.drewN | apply IsS161.drew | apply IsS161.set_0 | apply IsS161.set_1) | exact HI0.out)) : p := h
theorem zap5 {p : Prop} (h : p := by first | rfl | (simp [errW_none, errW_some] <;> rfl) | (simp [*, errW_none, errW_some] <;> rfl)) : p := h
theorem zap4 {p : Prop} (h : p := by (try simp only [List.map_toArray, List.map_cons, List.map_nil]); first | done | rfl | (simp only [List.length_drop, List.length_take]; rfl)) : p := h
theorem zap3 {p : Prop} (h : p := by repeat (first | (with_reducible first | exact HB.out | apply below_alloc | apply pw_below_drewN | apply below_drew1 | refine below_set ?_ (IsS111.ge HI0.out)) | exact HB.out)) : p := h
theorem zap2 {p : Prop} (h : p := by repeat (first | (with_reducible first | exact HI0.out | apply IsS111.alloc | apply IsS111.drewN | apply IsS111.drew | apply IsS111.set_0 | apply IsS111.set_1 | apply IsS111.set_2) | exact HI0.out)) : p := h
theorem zap1 {p : Prop} (h : p := by repeat (first | (with_reducible first | exact HK.out | apply KeepBut.set_ | apply keep_drewN | apply keep_drew | apply keep_alloc) | exact HK.out)) : p := h
theorem zap0 {p : Prop} (h : p := by repeat (with_reducible first | exact HB.out | apply below_alloc | apply pw_below_drewN | apply below_drew1)) : p := h
def wire_Reader_Text.f (k : Nat) (s0_0 : ByteArray) (s0_1 : Bool) : Option (ByteArray × ByteArray × Bool) := (wire_Reader_length.f k s0_0 s0_1).bind fun bt128 => ((wire_Reader_Bad.f bt128.2.1 bt128.2.2).bind fun bt131 => (if bt131.1 = true then (some ((⟨#[]⟩ : ByteArray), bt131.2.1, bt131.2.2)) else (if 0 ≤ bt128.1 then (if bt128.1 ≤ (bt131.2.1.size : Int) then (some (bt131.2.1.extract 0 (bt128.1 : Int).toNat, bt131.2.1.extract (bt128.1 : Int).toNat bt131.2.1.size, bt131.2.2)) else (none)) else (none))))
theorem wire_Reader_Text.mono : ∀ a0 a1 k, LeO (wire_Reader_Text.f k a0 a1) (wire_Reader_Text.f (k + 1) a0 a1) := by
 intro a0 a1 k
 unfold wire_Reader_Text.f
 repeat' first
 | (with_reducible exact wire_Reader_length.mono _ _ _)
 | (with_reducible exact LeO.refl _)
 | (with_reducible exact LeO.none _)
 | (with_reducible refine LeO.ite ?_ ?_)
 | (with_reducible refine LeO.bind ?_ (fun _ => ?_))
 | exact wire_Reader_length.mono _ _ _
 | exact LeO.none _
 | refine LeO.ite ?_ ?_
 | refine LeO.bind ?_ (fun _ => ?_)
set_option maxHeartbeats 8000000 in
set_option maxRecDepth 100000 in
theorem wire_Reader_Text.calls (k : Nat) (g : Nat) (s0_0 : ByteArray) (s0_1 : Bool) (r1 : ByteArray) (r2 : ByteArray) (r3 : Bool) (w0 w : World) (hI : IsS161 w0 w g s0_0 s0_1) (hB : Below w0.heap.size w0 w) (h : wire_Reader_Text.f k s0_0 s0_1 = some (r1, r2, r3)) :
 Calls Try.prog 56 #[.pointer (some ⟨g, 0, none⟩)] w fun e w' => e = .returned (.string r1) ∧ IsS161 w0 w' g r2 r3 ∧ Below w0.heap.size w0 w' ∧ KeepBut w w' g none := by
 have HI0 := Aside0.mk hI
 have HK := Aside0.mk (KeepBut.refl w g none)
 have HL := Aside0.mk hB.size
 clear hI
 have HW0 := Aside0.mk hB.size
 have HB := Aside0.mk hB
 clear hB
 have H : ((wire_Reader_length.f k s0_0 s0_1).bind fun bt128 => ((wire_Reader_Bad.f bt128.2.1 bt128.2.2).bind fun bt131 => (if bt131.1 = true then (some ((⟨#[]⟩ : ByteArray), bt131.2.1, bt131.2.2)) else (if 0 ≤ bt128.1 then (if bt128.1 ≤ (bt131.2.1.size : Int) then (some (bt131.2.1.extract 0 (bt128.1 : Int).toNat, bt131.2.1.extract (bt128.1 : Int).toNat bt131.2.1.size, bt131.2.2)) else (none)) else (none))))) = some (r1, r2, r3) := h
 clear h
 replace H := Option.bind_eq_some_iff.mp H
 obtain ⟨⟨t128, t129, t130⟩, A20, H⟩ := H
 try dsimp only at H
 have A2 := Aside0.mk A20
 clear A20
 replace H := Option.bind_eq_some_iff.mp H
 obtain ⟨⟨t131, t132, t133⟩, A30, H⟩ := H
 try dsimp only at H
 have A3 := Aside0.mk A30
 clear A30
 by_cases c4 : t131 = true
 · subst c4
   rw [if_pos rfl] at H
   simp only [Option.some.injEq, Prod.mk.injEq] at H
   obtain ⟨rfl, rfl, rfl⟩ := H
   go_enter Try.func56, Try.ntmps56
   go_wp2_with (first | ((with_reducible refine gate_callee (f := 93) rfl ?_); refine goesL_ (some 6) rfl rfl Try.func93 (by kernel_rfl) rfl #[.pointer (some ⟨g, 0, none⟩)] rfl zap4 ?_; (with_reducible refine (wire_Reader_length.calls k g s0_0 s0_1 t128 t129 t130 w0 _ ?side1 ?side2 A2.out).mono ?_); (case side1 => exact zap6); (case side2 => exact zap7); rintro e w5 ⟨rfl, hi, hb, hk⟩; refine ⟨_, rfl, ?_⟩; have n0_ := Aside0.mk (KeepBut.trans zap1 hk (.inl rfl)); have n1_ := Aside0.mk (hb); have n2_ := Aside0.mk (hi); clear HK; clear HB; clear HI0; have HK := n0_; have HB := n1_; have HI0 := n2_; clear n0_ n1_ n2_; (try clear hb); (try clear hb2); (try clear hk); (try clear hi)) | ((with_reducible refine gate_callee (f := 58) rfl ?_); refine goesL_ (some 8) rfl rfl Try.func58 (by kernel_rfl) rfl #[.pointer (some ⟨g, 0, none⟩)] rfl zap4 ?_; (with_reducible refine (wire_Reader_Bad.calls g t129 t130 true t132 t133 w0 _ ?side1 ?side2 A3.out).mono ?_); (case side1 => exact zap6); (case side2 => exact zap7); rintro e w6 ⟨rfl, hi, hb, hk⟩; refine ⟨_, rfl, ?_⟩; have n0_ := Aside0.mk (KeepBut.trans zap1 hk (.inl rfl)); have n1_ := Aside0.mk (hb); have n2_ := Aside0.mk (hi); clear HK; clear HB; clear HI0; have HK := n0_; have HB := n1_; have HI0 := n2_; clear n0_ n1_ n2_; (try clear hb); (try clear hb2); (try clear hk); (try clear hi)))
   go_ret
   exact ⟨zap5, zap6, zap7, zap1⟩
 · replace c4 := Bool.eq_false_iff.mpr c4
   subst c4
   rw [if_neg (show ¬ (false = true) by decide)] at H
   by_cases c7 : 0 ≤ t128
   · rw [if_pos c7] at H
     have c7b0 := eq_true c7
     have c7b1 : decide (0 ≤ t128) = true := decide_eq_true c7
     clear c7
     by_cases c8 : t128 ≤ (t132.size : Int)
     · rw [if_pos c8] at H
       have c8b0 := eq_true c8
       have c8b1 : decide (t128 ≤ (t132.size : Int)) = true := decide_eq_true c8
       clear c8
       have c9b0 := eq_true (of_decide_eq_true zap9 : 0 ≤ t128)
       have c10b0 := eq_true (of_decide_eq_true zap9 : t128 ≤ (t132.size : Int))
       simp only [Option.some.injEq, Prod.mk.injEq] at H
       obtain ⟨rfl, rfl, rfl⟩ := H
       go_enter Try.func56, Try.ntmps56
       go_wp2_with (first | ((with_reducible refine gate_callee (f := 93) rfl ?_); refine goesL_ (some 6) rfl rfl Try.func93 (by kernel_rfl) rfl #[.pointer (some ⟨g, 0, none⟩)] rfl zap4 ?_; (with_reducible refine (wire_Reader_length.calls k g s0_0 s0_1 t128 t129 t130 w0 _ ?side1 ?side2 A2.out).mono ?_); (case side1 => exact zap6); (case side2 => exact zap7); rintro e w11 ⟨rfl, hi, hb, hk⟩; refine ⟨_, rfl, ?_⟩; have n0_ := Aside0.mk (KeepBut.trans zap1 hk (.inl rfl)); have n1_ := Aside0.mk (hb); have n2_ := Aside0.mk (hi); clear HK; clear HB; clear HI0; have HK := n0_; have HB := n1_; have HI0 := n2_; clear n0_ n1_ n2_; (try clear hb); (try clear hb2); (try clear hk); (try clear hi)) | ((with_reducible refine gate_callee (f := 58) rfl ?_); refine goesL_ (some 8) rfl rfl Try.func58 (by kernel_rfl) rfl #[.pointer (some ⟨g, 0, none⟩)] rfl zap4 ?_; (with_reducible refine (wire_Reader_Bad.calls g t129 t130 false t132 t133 w0 _ ?side1 ?side2 A3.out).mono ?_); (case side1 => exact zap6); (case side2 => exact zap7); rintro e w12 ⟨rfl, hi, hb, hk⟩; refine ⟨_, rfl, ?_⟩; have n0_ := Aside0.mk (KeepBut.trans zap1 hk (.inl rfl)); have n1_ := Aside0.mk (hb); have n2_ := Aside0.mk (hi); clear HK; clear HB; clear HI0; have HK := n0_; have HB := n1_; have HI0 := n2_; clear n0_ n1_ n2_; (try clear hb); (try clear hb2); (try clear hk); (try clear hi); obtain ⟨HGz13, hgz13⟩ := HI0.out; have hcz13_0 := cellS161_0 HGz13; have hcz13_1 := cellS161_1 HGz13; have hfz13_0 := blk_frozen HGz13 0; have hfz13_1 := blk_frozen HGz13 1; clear HGz13 hgz13))
       go_ret
       exact ⟨zap5, zap6, zap7, zap1⟩
     · rw [if_neg c8] at H
       exact absurd H (by simp)
   · rw [if_neg c7] at H
     exact absurd H (by simp)

def wire_Text.f (k : Nat) (a0 : ByteArray) : Option (ByteArray) := (wire_Int.f k (a0.size : Int)).bind fun t134 => (if t134.size + a0.size ≤ 9223372036854775807 then (some (t134 ++ a0)) else (none))
set_option maxHeartbeats 8000000 in
set_option maxRecDepth 100000 in
theorem wire_Text.calls (k : Nat) (a0 : ByteArray) (r : ByteArray) (w : World) (h : wire_Text.f k a0 = some r) :
 Calls Try.prog 49 #[.string a0] w fun e w' => e = .returned (.string r) ∧ Below w.heap.size w w' := by
 have HB := Aside0.mk (Below.refl w.heap.size w)
 have H : ((wire_Int.f k (a0.size : Int)).bind fun t134 => (if t134.size + a0.size ≤ 9223372036854775807 then (some (t134 ++ a0)) else (none))) = some r := h
 clear h
 replace H := Option.bind_eq_some_iff.mp H
 obtain ⟨t134, A20, H⟩ := H
 try dsimp only at H
 have A2 := Aside0.mk A20
 clear A20
 by_cases c3 : t134.size + a0.size ≤ 9223372036854775807
 · rw [if_pos c3] at H
   have c3b0 := eq_true c3
   have c3b1 : decide (t134.size + a0.size ≤ 9223372036854775807) = true := decide_eq_true c3
   try have c3b2 : (9223372036854775807 < t134.size + a0.size) = False := eq_false (Nat.not_lt.2 c3)
   obtain rfl := Option.some.inj H
   go_enter Try.func49, Try.ntmps49
   go_wp2_with (first | ((with_reducible refine gate_callee (f := 50) rfl ?_); refine goesL_ (some 5) rfl rfl Try.func50 (by kernel_rfl) rfl #[.int .i64 (a0.size : Int)] rfl zap4 ?_; (with_reducible refine (wire_Int.calls k (a0.size : Int) t134 _ A2.out).mono ?_); rintro e w4 ⟨rfl, hb⟩; refine ⟨_, rfl, ?_⟩; have n0_ := Aside0.mk (below_step zap0 hb); clear HB; have HB := n0_; clear n0_; (try clear hb); (try clear hb2); (try clear hk); (try clear hi)))
   go_ret
   exact ⟨zap5, zap0⟩
 · rw [if_neg c3] at H
   exact absurd H (by simp)

def abugidaref02_code.f (a0 : Int) : Option (Int) := if a0 ≥ 0 then (some (IntKind.u64.wrap (2 * (IntKind.u64.wrap (a0))))) else (some (IntKind.u64.wrap ((IntKind.u64.wrap (2 * (IntKind.u64.wrap (wrap64 (-(wrap64 (a0 + 1))))))) + 1)))
set_option maxHeartbeats 8000000 in
set_option maxRecDepth 100000 in
theorem abugidaref02_code.calls (a0 : Int) (r : Int) (w : World) (h : abugidaref02_code.f a0 = some r) :
 Calls Try.prog 92 #[.int .i64 a0] w fun e w' => e = .returned (.int .u64 r) ∧ Drawn0 w w' := by
 have H : (if a0 ≥ 0 then (some (IntKind.u64.wrap (2 * (IntKind.u64.wrap (a0))))) else (some (IntKind.u64.wrap ((IntKind.u64.wrap (2 * (IntKind.u64.wrap (wrap64 (-(wrap64 (a0 + 1))))))) + 1)))) = some r := h
 clear h
 by_cases c2 : a0 ≥ 0
 · rw [if_pos c2] at H
   have c2b0 : decide (0 ≤ a0) = true := decide_eq_true c2
   clear c2
   obtain rfl := Option.some.inj H
   go_enter Try.func92, Try.ntmps92
   go_wp2
   go_ret
   exact ⟨zap8, by repeat (first | exact Drawn0.refl _ | apply Drawn0.step)⟩
 · rw [if_neg c2] at H
   have c2b0 : decide (0 ≤ a0) = false := decide_eq_false c2
   clear c2
   obtain rfl := Option.some.inj H
   go_enter Try.func92, Try.ntmps92
   go_wp2
   go_ret
   exact ⟨zap8, by repeat (first | exact Drawn0.refl _ | apply Drawn0.step)⟩

def abugidaref02_Int.l0 : Nat → Int → ByteArray → Option (ByteArray)
 | 0, _, _ => none
 | k + 1, x3, x4 => if x3 ≥ 128 then ((some (([(IntKind.u64.wrap ((Int.tmod x3 128) + 128)) % 256] : List Int) : List Int)).bind fun y136 => (if x4.size + (strOfNums y136).size ≤ 9223372036854775807 then (abugidaref02_Int.l0 k (IntKind.u64.wrap (Int.tdiv x3 128)) (x4 ++ (strOfNums y136))) else (none))) else ((some (([(x3) % 256] : List Int) : List Int)).bind fun y139 => (if x4.size + (strOfNums y139).size ≤ 9223372036854775807 then (some (x4 ++ (strOfNums y139))) else (none)))
def abugidaref02_Int.f (k : Nat) (a0 : Int) : Option (ByteArray) := (abugidaref02_code.f a0).bind fun t135 => (abugidaref02_Int.l0 k t135 (⟨#[]⟩ : ByteArray))
theorem abugidaref02_Int.mono_l : ∀ k, (∀ y0 y1, LeO (abugidaref02_Int.l0 k y0 y1) (abugidaref02_Int.l0 (k + 1) y0 y1))
 | 0 => fun _ _ r h => by simp [abugidaref02_Int.l0] at h
 | k + 1 => by
   have ih0 := abugidaref02_Int.mono_l k
   · intro y0 y1
     unfold abugidaref02_Int.l0
     repeat' first
     | (with_reducible exact ih0 _ _)
     | (with_reducible exact LeO.refl _)
     | (with_reducible exact LeO.none _)
     | (with_reducible refine LeO.ite ?_ ?_)
     | (with_reducible refine LeO.bind ?_ (fun _ => ?_))
     | exact ih0 _ _
     | exact LeO.none _
     | refine LeO.ite ?_ ?_
     | refine LeO.bind ?_ (fun _ => ?_)
theorem abugidaref02_Int.mono : ∀ a0 k, LeO (abugidaref02_Int.f k a0) (abugidaref02_Int.f (k + 1) a0) := by
 intro a0 k
 have ih0 := abugidaref02_Int.mono_l k
 unfold abugidaref02_Int.f
 repeat' first
 | (with_reducible exact ih0 _ _)
 | (with_reducible exact LeO.refl _)
 | (with_reducible exact LeO.none _)
 | (with_reducible refine LeO.ite ?_ ?_)
 | (with_reducible refine LeO.bind ?_ (fun _ => ?_))
 | exact ih0 _ _
 | exact LeO.none _
 | refine LeO.ite ?_ ?_
 | refine LeO.bind ?_ (fun _ => ?_)
set_option maxHeartbeats 8000000 in
set_option maxRecDepth 100000 in
theorem abugidaref02_Int.calls (k : Nat) (a0 : Int) (r : ByteArray) (w : World) (h : abugidaref02_Int.f k a0 = some r) :
 Calls Try.prog 53 #[.int .i64 a0] w fun e w' => e = .returned (.string r) ∧ Below w.heap.size w w' := by
 have HB := Aside0.mk (Below.refl w.heap.size w)
 have H : ((abugidaref02_code.f a0).bind fun t135 => (abugidaref02_Int.l0 k t135 (⟨#[]⟩ : ByteArray))) = some r := h
 clear h
 replace H := Option.bind_eq_some_iff.mp H
 obtain ⟨t135, A20, H⟩ := H
 try dsimp only at H
 have A2 := Aside0.mk A20
 clear A20
 have H' := Aside0.mk H
 clear H
 go_enter Try.func53, Try.ntmps53
 go_wp2_with (first | ((with_reducible refine gate_callee (f := 92) rfl ?_); refine goesL_ (some 6) rfl rfl Try.func92 (by kernel_rfl) rfl #[.int .i64 a0] rfl zap4 ?_; (with_reducible refine (abugidaref02_code.calls a0 t135 _ A2.out).mono ?_); rintro e w' ⟨rfl, ⟨nd, rfl⟩⟩; refine ⟨_, rfl, ?_⟩))
 go_loopg [3, 4] k (fun kq v3 v4 w' => ∃ (x3_1 : Int) (x4_1 : ByteArray), v3 = .int .u64 x3_1 ∧ v4 = .string x4_1 ∧ Aside0 (abugidaref02_Int.l0 kq x3_1 x4_1 = some r) ∧ Aside0 (kq ≤ k) ∧ Aside0 (Below w.heap.size w w'))
 case atStart => exact ⟨(t135), ((⟨#[]⟩ : ByteArray)), zap8, zap8, H', ⟨Nat.le_refl _⟩, ⟨zap0⟩⟩
 case round =>
  clear H'
  try clear p2
  obtain ⟨x3_1, x4_1, rfl, rfl, HA, HK1, HB⟩ := hrel
  cases gk with
  | zero => exact absurd HA.out (by simp [abugidaref02_Int.l0])
  | succ k1 =>
    have H := HA.out
    clear HA
    simp only [abugidaref02_Int.l0] at H
    by_cases c3 : x3_1 ≥ 128
    · rw [if_pos c3] at H
      have c3b0 : decide (128 ≤ x3_1) = true := decide_eq_true c3
      clear c3
      obtain ⟨y136, hy136⟩ : ∃ y_ : List Int, y_ = (([(IntKind.u64.wrap ((Int.tmod x3_1 128) + 128)) % 256] : List Int)) := ⟨_, rfl⟩
      replace H : (if x4_1.size + (strOfNums y136).size ≤ 9223372036854775807 then (abugidaref02_Int.l0 k1 (IntKind.u64.wrap (Int.tdiv x3_1 128)) (x4_1 ++ (strOfNums y136))) else (none)) = some r := by first | (rw [hy136]; with_reducible exact H) | (have H2_ := (Option.bind_some _ _).symm.trans H; rw [hy136]; with_reducible exact H2_) | (have H2_ := (Option.bind_some _ _).symm.trans H; with_reducible exact H2_) | with_reducible exact H | (rw [hy136]; exact H) | exact H
      have Ny136 := Aside0.mk hy136
      clear hy136
      by_cases c4 : x4_1.size + (strOfNums y136).size ≤ 9223372036854775807
      · rw [if_pos c4] at H
        have c4b0 := eq_true c4
        have c4b1 : decide (x4_1.size + (strOfNums y136).size ≤ 9223372036854775807) = true := decide_eq_true c4
        try have c4b2 : (9223372036854775807 < x4_1.size + (strOfNums y136).size) = False := eq_false (Nat.not_lt.2 c4)
        have H' := Aside0.mk H
        clear H
        go_wp2_with (first | ((with_reducible refine gate_dst (N := 14) rfl ?_); refine Kd.R_lit (Kd.int .u8) _ 5 ?hg (N := 14) ?hd (xs := ([(IntKind.u64.wrap ((Int.tmod x3_1 128) + 128)) % 256] : List Int)) (inner := [.int .u8 ((IntKind.u64.wrap ((Int.tmod x3_1 128) + 128)) % 256)]) (ok := fun _ => True) (okp := fun _ => True) ?hr ?hp (fun _ hk => hk) trivial (Below.refl _ _) (Nat.le_refl _) (by simp) ?_; (case hd => rfl); (case hg => rfl); (case hr => first | (go_simp; done) | (go_simp; rfl)); (case hp => exact (Reps.one (show Kd.M (Kd.int .u8) _ _ _ ((IntKind.u64.wrap ((Int.tmod x3_1 128) + 128)) % 256) [.int .u8 ((IntKind.u64.wrap ((Int.tmod x3_1 128) + 128)) % 256)] from rfl) (Reps.none _ _))); intro v137 w5 ho6 hb hg_ hnew_; clear hg_ hnew_; (first | rw [← Ny136.out] at ho6 | (simp only [Int.reduceToNat] at ho6; rw [← Ny136.out] at ho6)); have n0_ := Aside0.mk (Kd.R_lower ho6 (below_size zap0)); have n1_ := Aside0.mk (below_step zap0 hb); clear HB; have HO138 := n0_; have HB := n1_; clear n0_ n1_; clear hb ho6; have hcv7 := own_string (P := Try.prog) Try.underlying114 Try.underlying5 Try.underlying9 (Kd.own_of_R HO138.out)))
        go_roundg k1
        case measure => have := HK1.out; omega
        case rel => exact ⟨(IntKind.u64.wrap (Int.tdiv x3_1 128)), (x4_1 ++ (strOfNums y136)), zap8, zap8, H', ⟨by have := HK1.out; omega⟩, ⟨zap0⟩⟩
      · rw [if_neg c4] at H
        exact absurd H (by simp)
    · rw [if_neg c3] at H
      have c3b0 : decide (128 ≤ x3_1) = false := decide_eq_false c3
      clear c3
      obtain ⟨y139, hy139⟩ : ∃ y_ : List Int, y_ = (([(x3_1) % 256] : List Int)) := ⟨_, rfl⟩
      replace H : (if x4_1.size + (strOfNums y139).size ≤ 9223372036854775807 then (some (x4_1 ++ (strOfNums y139))) else (none)) = some r := by first | (rw [hy139]; with_reducible exact H) | (have H2_ := (Option.bind_some _ _).symm.trans H; rw [hy139]; with_reducible exact H2_) | (have H2_ := (Option.bind_some _ _).symm.trans H; with_reducible exact H2_) | with_reducible exact H | (rw [hy139]; exact H) | exact H
      have Ny139 := Aside0.mk hy139
      clear hy139
      by_cases c8 : x4_1.size + (strOfNums y139).size ≤ 9223372036854775807
      · rw [if_pos c8] at H
        have c8b0 := eq_true c8
        have c8b1 : decide (x4_1.size + (strOfNums y139).size ≤ 9223372036854775807) = true := decide_eq_true c8
        try have c8b2 : (9223372036854775807 < x4_1.size + (strOfNums y139).size) = False := eq_false (Nat.not_lt.2 c8)
        obtain rfl := Option.some.inj H
        go_wp2_with (first | ((with_reducible refine gate_dst (N := 22) rfl ?_); refine Kd.R_lit (Kd.int .u8) _ 5 ?hg (N := 22) ?hd (xs := ([(x3_1) % 256] : List Int)) (inner := [.int .u8 ((x3_1) % 256)]) (ok := fun _ => True) (okp := fun _ => True) ?hr ?hp (fun _ hk => hk) trivial (Below.refl _ _) (Nat.le_refl _) (by simp) ?_; (case hd => rfl); (case hg => rfl); (case hr => first | (go_simp; done) | (go_simp; rfl)); (case hp => exact (Reps.one (show Kd.M (Kd.int .u8) _ _ _ ((x3_1) % 256) [.int .u8 ((x3_1) % 256)] from rfl) (Reps.none _ _))); intro v140 w9 ho10 hb hg_ hnew_; clear hg_ hnew_; (first | rw [← Ny139.out] at ho10 | (simp only [Int.reduceToNat] at ho10; rw [← Ny139.out] at ho10)); have n0_ := Aside0.mk (Kd.R_lower ho10 (below_size zap0)); have n1_ := Aside0.mk (below_step zap0 hb); clear HB; have HO141 := n0_; have HB := n1_; clear n0_ n1_; clear hb ho10; have hcv11 := own_string (P := Try.prog) Try.underlying114 Try.underlying5 Try.underlying9 (Kd.own_of_R HO141.out)))
        go_ret
        exact ⟨zap5, zap0⟩
      · rw [if_neg c8] at H
        exact absurd H (by simp)

def abugidaref02_Text.f (k : Nat) (a0 : ByteArray) : Option (ByteArray) := (abugidaref02_Int.f k (a0.size : Int)).bind fun t142 => (if t142.size + a0.size ≤ 9223372036854775807 then (some (t142 ++ a0)) else (none))
set_option maxHeartbeats 8000000 in
set_option maxRecDepth 100000 in
theorem abugidaref02_Text.calls (k : Nat) (a0 : ByteArray) (r : ByteArray) (w : World) (h : abugidaref02_Text.f k a0 = some r) :
 Calls Try.prog 52 #[.string a0] w fun e w' => e = .returned (.string r) ∧ Below w.heap.size w w' := by
 have HB := Aside0.mk (Below.refl w.heap.size w)
 have H : ((abugidaref02_Int.f k (a0.size : Int)).bind fun t142 => (if t142.size + a0.size ≤ 9223372036854775807 then (some (t142 ++ a0)) else (none))) = some r := h
 clear h
 replace H := Option.bind_eq_some_iff.mp H
 obtain ⟨t142, A20, H⟩ := H
 try dsimp only at H
 have A2 := Aside0.mk A20
 clear A20
 by_cases c3 : t142.size + a0.size ≤ 9223372036854775807
 · rw [if_pos c3] at H
   have c3b0 := eq_true c3
   have c3b1 : decide (t142.size + a0.size ≤ 9223372036854775807) = true := decide_eq_true c3
   try have c3b2 : (9223372036854775807 < t142.size + a0.size) = False := eq_false (Nat.not_lt.2 c3)
   obtain rfl := Option.some.inj H
   go_enter Try.func52, Try.ntmps52
   go_wp2_with (first | ((with_reducible refine gate_callee (f := 53) rfl ?_); refine goesL_ (some 5) rfl rfl Try.func53 (by kernel_rfl) rfl #[.int .i64 (a0.size : Int)] rfl zap4 ?_; (with_reducible refine (abugidaref02_Int.calls k (a0.size : Int) t142 _ A2.out).mono ?_); rintro e w4 ⟨rfl, hb⟩; refine ⟨_, rfl, ?_⟩; have n0_ := Aside0.mk (below_step zap0 hb); clear HB; have HB := n0_; clear n0_; (try clear hb); (try clear hb2); (try clear hk); (try clear hi)))
   go_ret
   exact ⟨zap5, zap0⟩
 · rw [if_neg c3] at H
   exact absurd H (by simp)

def abugidaref02_Ints.l0 : Nat → List Int → ByteArray → Int → Option (ByteArray)
 | 0, _, _, _ => none
 | k + 1, x0, x3, x4 => if x4 < (x0.length : Int) then (if 0 ≤ x4 then ((abugidaref02_Int.f k (rd x0 x4)).bind fun t145 => (if x3.size + t145.size ≤ 9223372036854775807 then (abugidaref02_Ints.l0 k x0 (x3 ++ t145) (wrap64 (x4 + 1))) else (none))) else (none)) else (some x3)
def abugidaref02_Ints.f (k : Nat) (l0 : List Int) : Option (ByteArray) := (abugidaref02_Int.f k (l0.length : Int)).bind fun t143 => (abugidaref02_Ints.l0 k l0 t143 0)
set_option maxHeartbeats 8000000 in
set_option maxRecDepth 100000 in
theorem abugidaref02_Ints.calls (k : Nat) (A0 : Option Addr) (c0 : Nat) (l0 : List Int) (r : ByteArray) (w : World) (hr0 : Kd.C (Kd.int .i64) w A0 l0.length l0) (hc0 : l0.length ≤ c0) (h : abugidaref02_Ints.f k l0 = some r) :
 Calls Try.prog 54 #[.slice A0 l0.length c0] w fun e w' => e = .returned (.string r) ∧ Below w.heap.size w w' := by
 have HR0 := Aside0.mk hr0
 have HC0 := Aside0.mk hc0
 clear hr0 hc0
 have HB := Aside0.mk (Below.refl w.heap.size w)
 have H : ((abugidaref02_Int.f k (l0.length : Int)).bind fun t143 => (abugidaref02_Ints.l0 k l0 t143 0)) = some r := h
 clear h
 replace H := Option.bind_eq_some_iff.mp H
 obtain ⟨t143, A20, H⟩ := H
 try dsimp only at H
 have A2 := Aside0.mk A20
 clear A20
 have H' := Aside0.mk H
 clear H
 go_enter Try.func54, Try.ntmps54
 go_wp2_with (first | ((with_reducible refine gate_callee (f := 53) rfl ?_); refine goesL_ (some 7) rfl rfl Try.func53 (by kernel_rfl) rfl #[.int .i64 (l0.length : Int)] rfl zap4 ?_; (with_reducible refine (abugidaref02_Int.calls k (l0.length : Int) t143 _ A2.out).mono ?_); rintro e w3 ⟨rfl, hb⟩; refine ⟨_, rfl, ?_⟩; have n0_ := Aside0.mk (below_step zap0 hb); clear HB; have HB := n0_; clear n0_; (try clear hb); (try clear hb2); (try clear hk); (try clear hi)))
 go_loopg [3, 4] k (fun kq v3 v4 w' => ∃ (x3_1 : ByteArray) (x4_1 : Int), v3 = .string x3_1 ∧ v4 = .int .i64 x4_1 ∧ Aside0 (abugidaref02_Ints.l0 kq l0 x3_1 x4_1 = some r) ∧ Aside0 (kq ≤ k) ∧ Aside0 (Below w.heap.size w w'))
 case atStart => exact ⟨(t143), (0), zap8, zap8, H', ⟨Nat.le_refl _⟩, ⟨zap0⟩⟩
 case round =>
  clear H'
  try clear p2
  obtain ⟨x3_1, x4_1, rfl, rfl, HA, HK1, HB⟩ := hrel
  cases gk with
  | zero => exact absurd HA.out (by simp [abugidaref02_Ints.l0])
  | succ k1 =>
    have H := HA.out
    clear HA
    simp only [abugidaref02_Ints.l0] at H
    by_cases c4 : x4_1 < (l0.length : Int)
    · rw [if_pos c4] at H
      have c4b0 : decide (x4_1 < (l0.length : Int)) = true := decide_eq_true c4
      clear c4
      by_cases c5 : 0 ≤ x4_1
      · rw [if_pos c5] at H
        have c5b0 : decide (0 ≤ x4_1) = true := decide_eq_true c5
        clear c5
        replace H := Option.bind_eq_some_iff.mp H
        obtain ⟨t145, A60, H⟩ := H
        try dsimp only at H
        have A6 := Aside0.mk A60
        clear A60
        by_cases c7 : x3_1.size + t145.size ≤ 9223372036854775807
        · rw [if_pos c7] at H
          have c7b0 := eq_true c7
          have c7b1 : decide (x3_1.size + t145.size ≤ 9223372036854775807) = true := decide_eq_true c7
          try have c7b2 : (9223372036854775807 < x3_1.size + t145.size) = False := eq_false (Nat.not_lt.2 c7)
          have H' := Aside0.mk H
          clear H
          have p144 : 0 ≤ (x4_1 : Int) := of_decide_eq_true zap9
          have q144 : x4_1 < (l0.length : Int) := of_decide_eq_true zap9
          obtain ⟨ad144, e144, hx144_0⟩ := Kd.at_int HR0.out x4_1 p144 q144
          cases e144
          replace hx144_0 := (HB.out.cell (World.block_lt_of_cell? w _ hx144_0)).trans hx144_0
          replace p144 := eq_true p144
          replace q144 := eq_true q144
          go_wp2_with (first | ((with_reducible refine gate_callee (f := 53) rfl ?_); refine goesL_ (some 19) rfl rfl Try.func53 (by kernel_rfl) rfl #[.int .i64 (rd l0 x4_1)] rfl zap4 ?_; (with_reducible refine (abugidaref02_Int.calls k1 (rd l0 x4_1) t145 _ A6.out).mono ?_); rintro e w8 ⟨rfl, hb⟩; refine ⟨_, rfl, ?_⟩; have n0_ := Aside0.mk (below_step zap0 hb); clear HB; have HB := n0_; clear n0_; (try clear hb); (try clear hb2); (try clear hk); (try clear hi)))
          go_roundg k1
          case measure => have := HK1.out; omega
          case rel => exact ⟨(x3_1 ++ t145), (wrap64 (x4_1 + 1)), zap8, zap8, H', ⟨by have := HK1.out; omega⟩, ⟨zap0⟩⟩
        · rw [if_neg c7] at H
          exact absurd H (by simp)
      · rw [if_neg c5] at H
        exact absurd H (by simp)
    · rw [if_neg c4] at H
      have c4b0 : decide (x4_1 < (l0.length : Int)) = false := decide_eq_false c4
      clear c4
      obtain rfl := Option.some.inj H
      go_wp2
      go_ret
      exact ⟨zap5, zap0⟩

def abugidaref02_Texts.l0 : Nat → List ByteArray → ByteArray → Int → Option (ByteArray)
 | 0, _, _, _ => none
 | k + 1, x0, x3, x4 => if x4 < (x0.length : Int) then (if 0 ≤ x4 then ((abugidaref02_Text.f k (rdOf ByteArray.empty x0 x4)).bind fun t148 => (if x3.size + t148.size ≤ 9223372036854775807 then (abugidaref02_Texts.l0 k x0 (x3 ++ t148) (wrap64 (x4 + 1))) else (none))) else (none)) else (some x3)
def abugidaref02_Texts.f (k : Nat) (l0 : List ByteArray) : Option (ByteArray) := (abugidaref02_Int.f k (l0.length : Int)).bind fun t146 => (abugidaref02_Texts.l0 k l0 t146 0)
set_option maxHeartbeats 8000000 in
set_option maxRecDepth 100000 in
theorem abugidaref02_Texts.calls (k : Nat) (A0 : Option Addr) (c0 : Nat) (l0 : List ByteArray) (r : ByteArray) (w : World) (hr0 : Kd.C Kd.string w A0 l0.length l0) (hc0 : l0.length ≤ c0) (h : abugidaref02_Texts.f k l0 = some r) :
 Calls Try.prog 64 #[.slice A0 l0.length c0] w fun e w' => e = .returned (.string r) ∧ Below w.heap.size w w' := by
 have HR0 := Aside0.mk hr0
 have HC0 := Aside0.mk hc0
 clear hr0 hc0
 have HB := Aside0.mk (Below.refl w.heap.size w)
 have H : ((abugidaref02_Int.f k (l0.length : Int)).bind fun t146 => (abugidaref02_Texts.l0 k l0 t146 0)) = some r := h
 clear h
 replace H := Option.bind_eq_some_iff.mp H
 obtain ⟨t146, A20, H⟩ := H
 try dsimp only at H
 have A2 := Aside0.mk A20
 clear A20
 have H' := Aside0.mk H
 clear H
 go_enter Try.func64, Try.ntmps64
 go_wp2_with (first | ((with_reducible refine gate_callee (f := 53) rfl ?_); refine goesL_ (some 7) rfl rfl Try.func53 (by kernel_rfl) rfl #[.int .i64 (l0.length : Int)] rfl zap4 ?_; (with_reducible refine (abugidaref02_Int.calls k (l0.length : Int) t146 _ A2.out).mono ?_); rintro e w3 ⟨rfl, hb⟩; refine ⟨_, rfl, ?_⟩; have n0_ := Aside0.mk (below_step zap0 hb); clear HB; have HB := n0_; clear n0_; (try clear hb); (try clear hb2); (try clear hk); (try clear hi)))
 go_loopg [3, 4] k (fun kq v3 v4 w' => ∃ (x3_1 : ByteArray) (x4_1 : Int), v3 = .string x3_1 ∧ v4 = .int .i64 x4_1 ∧ Aside0 (abugidaref02_Texts.l0 kq l0 x3_1 x4_1 = some r) ∧ Aside0 (kq ≤ k) ∧ Aside0 (Below w.heap.size w w'))
 case atStart => exact ⟨(t146), (0), zap8, zap8, H', ⟨Nat.le_refl _⟩, ⟨zap0⟩⟩
 case round =>
  clear H'
  try clear p2
  obtain ⟨x3_1, x4_1, rfl, rfl, HA, HK1, HB⟩ := hrel
  cases gk with
  | zero => exact absurd HA.out (by simp [abugidaref02_Texts.l0])
  | succ k1 =>
    have H := HA.out
    clear HA
    simp only [abugidaref02_Texts.l0] at H
    by_cases c4 : x4_1 < (l0.length : Int)
    · rw [if_pos c4] at H
      have c4b0 : decide (x4_1 < (l0.length : Int)) = true := decide_eq_true c4
      clear c4
      by_cases c5 : 0 ≤ x4_1
      · rw [if_pos c5] at H
        have c5b0 : decide (0 ≤ x4_1) = true := decide_eq_true c5
        clear c5
        replace H := Option.bind_eq_some_iff.mp H
        obtain ⟨t148, A60, H⟩ := H
        try dsimp only at H
        have A6 := Aside0.mk A60
        clear A60
        by_cases c7 : x3_1.size + t148.size ≤ 9223372036854775807
        · rw [if_pos c7] at H
          have c7b0 := eq_true c7
          have c7b1 : decide (x3_1.size + t148.size ≤ 9223372036854775807) = true := decide_eq_true c7
          try have c7b2 : (9223372036854775807 < x3_1.size + t148.size) = False := eq_false (Nat.not_lt.2 c7)
          have H' := Aside0.mk H
          clear H
          have p147 : 0 ≤ (x4_1 : Int) := of_decide_eq_true zap9
          have q147 : x4_1 < (l0.length : Int) := of_decide_eq_true zap9
          obtain ⟨ad147, e147, hx147_0⟩ := Kd.at_string HR0.out x4_1 p147 q147
          cases e147
          replace hx147_0 := (HB.out.cell (World.block_lt_of_cell? w _ hx147_0)).trans hx147_0
          replace p147 := eq_true p147
          replace q147 := eq_true q147
          go_wp2_with (first | ((with_reducible refine gate_callee (f := 52) rfl ?_); refine goesL_ (some 19) rfl rfl Try.func52 (by kernel_rfl) rfl #[.string (rdOf ByteArray.empty l0 x4_1)] rfl zap4 ?_; (with_reducible refine (abugidaref02_Text.calls k1 (rdOf ByteArray.empty l0 x4_1) t148 _ A6.out).mono ?_); rintro e w8 ⟨rfl, hb⟩; refine ⟨_, rfl, ?_⟩; have n0_ := Aside0.mk (below_step zap0 hb); clear HB; have HB := n0_; clear n0_; (try clear hb); (try clear hb2); (try clear hk); (try clear hi)))
          go_roundg k1
          case measure => have := HK1.out; omega
          case rel => exact ⟨(x3_1 ++ t148), (wrap64 (x4_1 + 1)), zap8, zap8, H', ⟨by have := HK1.out; omega⟩, ⟨zap0⟩⟩
        · rw [if_neg c7] at H
          exact absurd H (by simp)
      · rw [if_neg c5] at H
        exact absurd H (by simp)
    · rw [if_neg c4] at H
      have c4b0 : decide (x4_1 < (l0.length : Int)) = false := decide_eq_false c4
      clear c4
      obtain rfl := Option.some.inj H
      go_wp2
      go_ret
      exact ⟨zap5, zap0⟩

def IsS111 (w0 W : World) (g : Nat) (f0 : ByteArray) (f1 : Int) (f2 : Bool) : Prop := W.heap[g]? = some (.cells #[.string f0, .int .i64 f1, .bool f2] 111 (0, 0)) ∧ w0.heap.size ≤ g
theorem IsS111.grown {w0 W : World} {g : Nat} {f0 : ByteArray} {f1 : Int} {f2 : Bool} {W1 : World} {row : Option Nat} (h : IsS111 w0 W g f0 f1 f2) (hw : W.grownBy W1 row) (hne : some g ≠ row) : IsS111 w0 W1 g f0 f1 f2 := by
 obtain ⟨hb, hg⟩ := h
 exact ⟨blk_grown hb hw hne, hg⟩
theorem IsS111.kept {w0 W : World} {g : Nat} {f0 : ByteArray} {f1 : Int} {f2 : Bool} {W1 : World} {S : Nat → Prop} (h : IsS111 w0 W g f0 f1 f2) (hk : Kept W W1 S) (hne : ¬ S g) : IsS111 w0 W1 g f0 f1 f2 := by
 obtain ⟨hb, hg⟩ := h
 exact ⟨blk_kept hb hk hne, hg⟩
theorem IsS111.below {w0 W : World} {g : Nat} {f0 : ByteArray} {f1 : Int} {f2 : Bool} {W1 : World} (h : IsS111 w0 W g f0 f1 f2) (hw : Below W.heap.size W W1) : IsS111 w0 W1 g f0 f1 f2 := h.grown (grown_of_below hw none) (by simp)
theorem IsS111.alloc {w0 W : World} {g : Nat} {f0 : ByteArray} {f1 : Int} {f2 : Bool} (h : IsS111 w0 W g f0 f1 f2) (o : Obj) : IsS111 w0 (W.alloc o) g f0 f1 f2 := h.below (below_alloc (Below.refl _ _) o)
theorem IsS111.drewN {w0 W : World} {g : Nat} {f0 : ByteArray} {f1 : Int} {f2 : Bool} (h : IsS111 w0 W g f0 f1 f2) (m : Nat) : IsS111 w0 (W.drewN m) g f0 f1 f2 := h
theorem IsS111.drew {w0 W : World} {g : Nat} {f0 : ByteArray} {f1 : Int} {f2 : Bool} (h : IsS111 w0 W g f0 f1 f2) : IsS111 w0 W.drew g f0 f1 f2 := h
theorem IsS111.at_ {w0 W : World} {g : Nat} {f0 : ByteArray} {f1 : Int} {f2 : Bool} {w' : World} {m : Nat} (hq : W.drewN m = w') (h : IsS111 w0 W g f0 f1 f2) : IsS111 w0 w' g f0 f1 f2 := by subst hq; exact IsS111.drewN h m
theorem IsS111.apart {w0 W : World} {g : Nat} {f0 : ByteArray} {f1 : Int} {f2 : Bool} {α : Type} {d : Kd α} {e : Nat} {base : Nat} {ok : Nat → Prop} {v : Value} {xs : List α} (h : IsS111 w0 W g f0 f1 f2) (ho : d.R e W base ok v xs) (ht : ∀ q, q ∈ e :: d.E → q ≠ 111) : d.R e W base (fun k => ok k ∧ k ≠ g) v xs := by
 obtain ⟨hb, hg⟩ := h
 exact Kd.R_types ho hb ht
theorem IsS111.own_ne {w0 W : World} {g : Nat} {f0 : ByteArray} {f1 : Int} {f2 : Bool} {α : Type} {d : Kd α} {e : Nat} {base : Nat} {ok : Nat → Prop} {v : Value} {xs : List α} (h : IsS111 w0 W g f0 f1 f2) (ho : d.R e W base ok v xs) (ht : e ≠ 111) : some g ≠ v.ownBlock := by
 obtain ⟨hb, hg⟩ := h
 exact Kd.R_ne ho hb ht
theorem IsS111.lt {w0 W : World} {g : Nat} {f0 : ByteArray} {f1 : Int} {f2 : Bool} (h : IsS111 w0 W g f0 f1 f2) : g < W.heap.size := by
 obtain ⟨hb, hg⟩ := h
 exact blk_lt hb
theorem IsS111.ge {w0 W : World} {g : Nat} {f0 : ByteArray} {f1 : Int} {f2 : Bool} (h : IsS111 w0 W g f0 f1 f2) : w0.heap.size ≤ g := by
 obtain ⟨hb, hg⟩ := h
 exact hg
theorem IsS111.far {w0 W : World} {g : Nat} {f0 : ByteArray} {f1 : Int} {f2 : Bool} {p : Addr} (h : IsS111 w0 W g f0 f1 f2) (hne : g ≠ p.block) (u : Value) : IsS111 w0 (W.setCell p u) g f0 f1 f2 := by
 obtain ⟨hb, hg⟩ := h
 exact ⟨blk_far hb hne u, hg⟩
theorem cellS111_0 {W : World} {g : Nat} {f0 : ByteArray} {f1 : Int} {f2 : Bool} (h : W.heap[g]? = some (.cells #[.string f0, .int .i64 f1, .bool f2] 111 (0, 0))) : W.cell? ⟨g, 0, none⟩ = some (.string f0) := (blk_cell h 0).trans rfl
theorem IsS111.set_0 {w0 W : World} {g : Nat} {f0 : ByteArray} {f1 : Int} {f2 : Bool} (h : IsS111 w0 W g f0 f1 f2) (x : ByteArray) : IsS111 w0 (W.setCell ⟨g, 0, none⟩ (.string x)) g x f1 f2 := by
 obtain ⟨hb, hg⟩ := h
 exact ⟨by simpa using blk_set hb 0 (.string x), hg⟩
theorem cellS111_1 {W : World} {g : Nat} {f0 : ByteArray} {f1 : Int} {f2 : Bool} (h : W.heap[g]? = some (.cells #[.string f0, .int .i64 f1, .bool f2] 111 (0, 0))) : W.cell? ⟨g, 1, none⟩ = some (.int .i64 f1) := (blk_cell h 1).trans rfl
theorem IsS111.set_1 {w0 W : World} {g : Nat} {f0 : ByteArray} {f1 : Int} {f2 : Bool} (h : IsS111 w0 W g f0 f1 f2) (x : Int) : IsS111 w0 (W.setCell ⟨g, 1, none⟩ (.int .i64 x)) g f0 x f2 := by
 obtain ⟨hb, hg⟩ := h
 exact ⟨by simpa using blk_set hb 1 (.int .i64 x), hg⟩
theorem cellS111_2 {W : World} {g : Nat} {f0 : ByteArray} {f1 : Int} {f2 : Bool} (h : W.heap[g]? = some (.cells #[.string f0, .int .i64 f1, .bool f2] 111 (0, 0))) : W.cell? ⟨g, 2, none⟩ = some (.bool f2) := (blk_cell h 2).trans rfl
theorem IsS111.set_2 {w0 W : World} {g : Nat} {f0 : ByteArray} {f1 : Int} {f2 : Bool} (h : IsS111 w0 W g f0 f1 f2) (x : Bool) : IsS111 w0 (W.setCell ⟨g, 2, none⟩ (.bool x)) g f0 f1 x := by
 obtain ⟨hb, hg⟩ := h
 exact ⟨by simpa using blk_set hb 2 (.bool x), hg⟩
def abugidaref02_New.f (a0 : ByteArray) : Option (ByteArray × Int × Bool) := some (a0, 0, false)
set_option maxHeartbeats 8000000 in
set_option maxRecDepth 100000 in
theorem abugidaref02_New.calls (a0 : ByteArray) (r1 : ByteArray) (r2 : Int) (r3 : Bool) (w0 w : World) (hB : Below w0.heap.size w0 w) (h : abugidaref02_New.f a0 = some (r1, r2, r3)) :
 Calls Try.prog 65 #[.string a0] w fun e w' => ∃ g_ : Nat, e = .returned (.pointer (some ⟨g_, 0, none⟩)) ∧ IsS111 w0 w' g_ r1 r2 r3 ∧ Below w0.heap.size w0 w' ∧ Below w.heap.size w w' := by
 have hu111 := Try.underlying111
 have HBW := Aside0.mk (Below.refl w.heap.size w)
 have HW0 := Aside0.mk hB.size
 have HB := Aside0.mk hB
 clear hB
 have H : (some (a0, 0, false)) = some (r1, r2, r3) := h
 clear h
 simp only [Option.some.injEq, Prod.mk.injEq] at H
 obtain ⟨rfl, rfl, rfl⟩ := H
 go_enter Try.func65, Try.ntmps65
 go_wp2_with (first | ((with_reducible refine gate_dst (N := 5) rfl ?_); refine box_event ?hg (N := 5) ?hd (cs := #[.string a0, .int .i64 0, .bool false]) (t := 111) ?hr ?_; (case hd => rfl); (case hg => rfl); (case hr => first | (go_simp; done) | (go_simp; rfl)); intro gb149 hg w2 hbox hb; have n0_ := Aside0.mk (below_step HBW.out hb); have n1_ := Aside0.mk (below_step zap0 hb); have n2_ := Aside0.mk (hbox); have n3_ := Aside0.mk ((by rw [hg]; exact (below_size zap10) : w.heap.size ≤ gb149)); have n4_ := Aside0.mk ((Nat.le_trans HW0.out (by rw [hg]; exact (below_size zap10) : w.heap.size ≤ gb149) : w0.heap.size ≤ gb149)); clear HBW; clear HB; have HBW := n0_; have HB := n1_; have BK149 := n2_; have GW149 := n3_; have GE149 := n4_; clear n0_ n1_ n2_ n3_ n4_; clear hb hbox hg))
 go_ret
 exact ⟨_, rfl, (show IsS111 w0 _ gb149 a0 0 false from ⟨by (with_reducible repeat (first | refine blk_drewN ?_ _ | refine blk_drew ?_ | refine blk_alloc ?_ _)); exact BK149.out, GE149.out⟩), by repeat (first | (with_reducible first | exact HB.out | apply below_alloc | apply pw_below_drewN | apply below_drew1 | refine below_set ?_ GE149.out) | exact HB.out), by repeat (first | (with_reducible first | exact HBW.out | apply below_alloc | apply pw_below_drewN | apply below_drew1 | refine below_set ?_ GW149.out) | exact HBW.out)⟩

def abugidaref02_Reader_Bad.f (s0_0 : ByteArray) (s0_1 : Int) (s0_2 : Bool) : Option (Bool × ByteArray × Int × Bool) := some (s0_2, s0_0, s0_1, s0_2)
set_option maxHeartbeats 8000000 in
set_option maxRecDepth 100000 in
theorem abugidaref02_Reader_Bad.calls (g : Nat) (s0_0 : ByteArray) (s0_1 : Int) (s0_2 : Bool) (r1 : Bool) (r2 : ByteArray) (r3 : Int) (r4 : Bool) (w0 w : World) (hI : IsS111 w0 w g s0_0 s0_1 s0_2) (hB : Below w0.heap.size w0 w) (h : abugidaref02_Reader_Bad.f s0_0 s0_1 s0_2 = some (r1, r2, r3, r4)) :
 Calls Try.prog 99 #[.pointer (some ⟨g, 0, none⟩)] w fun e w' => e = .returned (.bool r1) ∧ IsS111 w0 w' g r2 r3 r4 ∧ Below w0.heap.size w0 w' ∧ KeepBut w w' g none := by
 have HI0 := Aside0.mk hI
 have HK := Aside0.mk (KeepBut.refl w g none)
 have HL := Aside0.mk hB.size
 clear hI
 have HW0 := Aside0.mk hB.size
 have HB := Aside0.mk hB
 clear hB
 have H : (some (s0_2, s0_0, s0_1, s0_2)) = some (r1, r2, r3, r4) := h
 clear h
 simp only [Option.some.injEq, Prod.mk.injEq] at H
 obtain ⟨rfl, rfl, rfl, rfl⟩ := H
 obtain ⟨HGz2, hgz2⟩ := HI0.out
 have hcz2_0 := cellS111_0 HGz2
 have hcz2_1 := cellS111_1 HGz2
 have hcz2_2 := cellS111_2 HGz2
 have hfz2_0 := blk_frozen HGz2 0
 have hfz2_1 := blk_frozen HGz2 1
 have hfz2_2 := blk_frozen HGz2 2
 clear HGz2 hgz2
 go_enter Try.func99, Try.ntmps99
 go_wp2
 go_ret
 exact ⟨zap5, zap2, zap3, zap1⟩

def abugidaref02_Reader_Left.f (s0_0 : ByteArray) (s0_1 : Int) (s0_2 : Bool) : Option (Int × ByteArray × Int × Bool) := (abugidaref02_Reader_Bad.f s0_0 s0_1 s0_2).bind fun bt150 => (if bt150.1 = true then (some (0, bt150.2.1, bt150.2.2.1, bt150.2.2.2)) else (some (wrap64 ((bt150.2.1.size : Int) - bt150.2.2.1), bt150.2.1, bt150.2.2.1, bt150.2.2.2)))
set_option maxHeartbeats 8000000 in
set_option maxRecDepth 100000 in
theorem abugidaref02_Reader_Left.calls (g : Nat) (s0_0 : ByteArray) (s0_1 : Int) (s0_2 : Bool) (r1 : Int) (r2 : ByteArray) (r3 : Int) (r4 : Bool) (w0 w : World) (hI : IsS111 w0 w g s0_0 s0_1 s0_2) (hB : Below w0.heap.size w0 w) (h : abugidaref02_Reader_Left.f s0_0 s0_1 s0_2 = some (r1, r2, r3, r4)) :
 Calls Try.prog 69 #[.pointer (some ⟨g, 0, none⟩)] w fun e w' => e = .returned (.int .i64 r1) ∧ IsS111 w0 w' g r2 r3 r4 ∧ Below w0.heap.size w0 w' ∧ KeepBut w w' g none := by
 have HI0 := Aside0.mk hI
 have HK := Aside0.mk (KeepBut.refl w g none)
 have HL := Aside0.mk hB.size
 clear hI
 have HW0 := Aside0.mk hB.size
 have HB := Aside0.mk hB
 clear hB
 have H : ((abugidaref02_Reader_Bad.f s0_0 s0_1 s0_2).bind fun bt150 => (if bt150.1 = true then (some (0, bt150.2.1, bt150.2.2.1, bt150.2.2.2)) else (some (wrap64 ((bt150.2.1.size : Int) - bt150.2.2.1), bt150.2.1, bt150.2.2.1, bt150.2.2.2)))) = some (r1, r2, r3, r4) := h
 clear h
 replace H := Option.bind_eq_some_iff.mp H
 obtain ⟨⟨t150, t151, t152, t153⟩, A20, H⟩ := H
 try dsimp only at H
 have A2 := Aside0.mk A20
 clear A20
 by_cases c3 : t150 = true
 · subst c3
   rw [if_pos rfl] at H
   simp only [Option.some.injEq, Prod.mk.injEq] at H
   obtain ⟨rfl, rfl, rfl, rfl⟩ := H
   go_enter Try.func69, Try.ntmps69
   go_wp2_with (first | (go_at_call 99; (with_reducible refine (abugidaref02_Reader_Bad.calls g s0_0 s0_1 s0_2 true t151 t152 t153 w0 _ ?side1 ?side2 A2.out).mono ?_); (case side1 => exact zap2); (case side2 => exact zap3); rintro e w4 ⟨rfl, hi, hb, hk⟩; have n0_ := Aside0.mk (KeepBut.trans zap1 hk (.inl rfl)); have n1_ := Aside0.mk (hb); have n2_ := Aside0.mk (hi); clear HK; clear HB; clear HI0; have HK := n0_; have HB := n1_; have HI0 := n2_; clear n0_ n1_ n2_; (try clear hb); (try clear hb2); (try clear hk); (try clear hi)))
   repeat (go_quiet (first | (go_at_call 99; (with_reducible refine (abugidaref02_Reader_Bad.calls g s0_0 s0_1 s0_2 true t151 t152 t153 w0 _ ?side1 ?side2 A2.out).mono ?_); (case side1 => exact zap2); (case side2 => exact zap3); rintro e w4 ⟨rfl, hi, hb, hk⟩; have n0_ := Aside0.mk (KeepBut.trans zap1 hk (.inl rfl)); have n1_ := Aside0.mk (hb); have n2_ := Aside0.mk (hi); clear HK; clear HB; clear HI0; have HK := n0_; have HB := n1_; have HI0 := n2_; clear n0_ n1_ n2_; (try clear hb); (try clear hb2); (try clear hk); (try clear hi))); try go_wp2_with (first | (go_at_call 99; (with_reducible refine (abugidaref02_Reader_Bad.calls g s0_0 s0_1 s0_2 true t151 t152 t153 w0 _ ?side1 ?side2 A2.out).mono ?_); (case side1 => exact zap2); (case side2 => exact zap3); rintro e w4 ⟨rfl, hi, hb, hk⟩; have n0_ := Aside0.mk (KeepBut.trans zap1 hk (.inl rfl)); have n1_ := Aside0.mk (hb); have n2_ := Aside0.mk (hi); clear HK; clear HB; clear HI0; have HK := n0_; have HB := n1_; have HI0 := n2_; clear n0_ n1_ n2_; (try clear hb); (try clear hb2); (try clear hk); (try clear hi))))
   go_ret
   exact ⟨zap5, zap2, zap3, zap1⟩
 · replace c3 := Bool.eq_false_iff.mpr c3
   subst c3
   rw [if_neg (show ¬ (false = true) by decide)] at H
   simp only [Option.some.injEq, Prod.mk.injEq] at H
   obtain ⟨rfl, rfl, rfl, rfl⟩ := H
   go_enter Try.func69, Try.ntmps69
   go_wp2_with (first | (go_at_call 99; (with_reducible refine (abugidaref02_Reader_Bad.calls g s0_0 s0_1 s0_2 false t151 t152 t153 w0 _ ?side1 ?side2 A2.out).mono ?_); (case side1 => exact zap2); (case side2 => exact zap3); rintro e w5 ⟨rfl, hi, hb, hk⟩; have n0_ := Aside0.mk (KeepBut.trans zap1 hk (.inl rfl)); have n1_ := Aside0.mk (hb); have n2_ := Aside0.mk (hi); clear HK; clear HB; clear HI0; have HK := n0_; have HB := n1_; have HI0 := n2_; clear n0_ n1_ n2_; (try clear hb); (try clear hb2); (try clear hk); (try clear hi); obtain ⟨HGz6, hgz6⟩ := HI0.out; have hcz6_0 := cellS111_0 HGz6; have hcz6_1 := cellS111_1 HGz6; have hcz6_2 := cellS111_2 HGz6; have hfz6_0 := blk_frozen HGz6 0; have hfz6_1 := blk_frozen HGz6 1; have hfz6_2 := blk_frozen HGz6 2; clear HGz6 hgz6))
   repeat (go_quiet (first | (go_at_call 99; (with_reducible refine (abugidaref02_Reader_Bad.calls g s0_0 s0_1 s0_2 false t151 t152 t153 w0 _ ?side1 ?side2 A2.out).mono ?_); (case side1 => exact zap2); (case side2 => exact zap3); rintro e w5 ⟨rfl, hi, hb, hk⟩; have n0_ := Aside0.mk (KeepBut.trans zap1 hk (.inl rfl)); have n1_ := Aside0.mk (hb); have n2_ := Aside0.mk (hi); clear HK; clear HB; clear HI0; have HK := n0_; have HB := n1_; have HI0 := n2_; clear n0_ n1_ n2_; (try clear hb); (try clear hb2); (try clear hk); (try clear hi); obtain ⟨HGz6, hgz6⟩ := HI0.out; have hcz6_0 := cellS111_0 HGz6; have hcz6_1 := cellS111_1 HGz6; have hcz6_2 := cellS111_2 HGz6; have hfz6_0 := blk_frozen HGz6 0; have hfz6_1 := blk_frozen HGz6 1; have hfz6_2 := blk_frozen HGz6 2; clear HGz6 hgz6)); try go_wp2_with (first | (go_at_call 99; (with_reducible refine (abugidaref02_Reader_Bad.calls g s0_0 s0_1 s0_2 false t151 t152 t153 w0 _ ?side1 ?side2 A2.out).mono ?_); (case side1 => exact zap2); (case side2 => exact zap3); rintro e w5 ⟨rfl, hi, hb, hk⟩; have n0_ := Aside0.mk (KeepBut.trans zap1 hk (.inl rfl)); have n1_ := Aside0.mk (hb); have n2_ := Aside0.mk (hi); clear HK; clear HB; clear HI0; have HK := n0_; have HB := n1_; have HI0 := n2_; clear n0_ n1_ n2_; (try clear hb); (try clear hb2); (try clear hk); (try clear hi); obtain ⟨HGz6, hgz6⟩ := HI0.out; have hcz6_0 := cellS111_0 HGz6; have hcz6_1 := cellS111_1 HGz6; have hcz6_2 := cellS111_2 HGz6; have hfz6_0 := blk_frozen HGz6 0; have hfz6_1 := blk_frozen HGz6 1; have hfz6_2 := blk_frozen HGz6 2; clear HGz6 hgz6)))
   go_ret
   exact ⟨zap5, zap2, zap3, zap1⟩

def abugidaref02_Reader_fail.f (s0_0 : ByteArray) (s0_1 : Int) (s0_2 : Bool) : Option (ByteArray × Int × Bool) := some (s0_0, s0_1, true)
set_option maxHeartbeats 8000000 in
set_option maxRecDepth 100000 in
theorem abugidaref02_Reader_fail.calls (g : Nat) (s0_0 : ByteArray) (s0_1 : Int) (s0_2 : Bool) (r1 : ByteArray) (r2 : Int) (r3 : Bool) (w0 w : World) (hI : IsS111 w0 w g s0_0 s0_1 s0_2) (hB : Below w0.heap.size w0 w) (h : abugidaref02_Reader_fail.f s0_0 s0_1 s0_2 = some (r1, r2, r3)) :
 Calls Try.prog 100 #[.pointer (some ⟨g, 0, none⟩)] w fun e w' => e = .returned (.tuple #[]) ∧ IsS111 w0 w' g r1 r2 r3 ∧ Below w0.heap.size w0 w' ∧ KeepBut w w' g none := by
 have HI0 := Aside0.mk hI
 have HK := Aside0.mk (KeepBut.refl w g none)
 have HL := Aside0.mk hB.size
 clear hI
 have HW0 := Aside0.mk hB.size
 have HB := Aside0.mk hB
 clear hB
 have H : (some (s0_0, s0_1, true)) = some (r1, r2, r3) := h
 clear h
 simp only [Option.some.injEq, Prod.mk.injEq] at H
 obtain ⟨rfl, rfl, rfl⟩ := H
 obtain ⟨HGz2, hgz2⟩ := HI0.out
 have hcz2_0 := cellS111_0 HGz2
 have hcz2_1 := cellS111_1 HGz2
 have hcz2_2 := cellS111_2 HGz2
 have hfz2_0 := blk_frozen HGz2 0
 have hfz2_1 := blk_frozen HGz2 1
 have hfz2_2 := blk_frozen HGz2 2
 clear HGz2 hgz2
 go_enter Try.func100, Try.ntmps100
 go_wp2
 first | go_end0 | ((try simp only [Exit.inBlock, Exit.then]); refine bodyPost_ret (results_none rfl _ _ _) rfl ?_)
 exact ⟨zap5, zap2, zap3, zap1⟩

end Go.Proofs.Ythokkeljfdfppaa.Pb
