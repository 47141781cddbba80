import Derived.Test.YthokkeljfdfppaaRlK
namespace Go.Proofs.Ythokkeljfdfppaa.Pb
open Go.RowKit Go.Proofs.Ythokkeljfdfppaa.Gw Go.Proofs.Ythokkeljfdfppaa.Rl Go.Proofs.YthokkeljfdfppaaW.PrintWords Go.Proofs.YthokkeljfdfppaaW.PrintLast Go.Proofs.YthokkeljfdfppaaW.PrintMore
open Go.Proofs.Ythokkeljfdfppaa.Gw
open Go.Proofs.Ythokkeljfdfppaa.Rl
attribute [local go_sem] max2_int min2_int max_two min_two max_three min_three max_four min_four   -- for this text's walks alone
set_option linter.unusedVariables false
set_option linter.unusedSimpArgs false

theorem zav13 {p : Prop} (h : p := by (with_reducible repeat (first | apply Kd.R_alloc | apply Kd.R_drewN | apply Kd.R_drew)); exact HO158.out) : p := h
theorem zav12 {p : Prop} (h : p := by (with_reducible repeat (first | refine blk_drewN ?_ _ | refine blk_drew ?_ | refine blk_alloc ?_ _)); exact BK160.out) : p := h
theorem zav11 {p : Prop} (h : p := by first | (with_reducible assumption) | assumption) : p := h
theorem zav10 {p : Prop} (h : p := by first | rfl | (simp; done) | (simp [*]; done)) : p := h
theorem zav9 {p : Prop} (h : p := by first | rfl | (simp [errW_none, errW_some] <;> rfl) | (simp [*, errW_none, errW_some] <;> rfl)) : p := h
theorem zav8 {p : Prop} (h : p := by (with_reducible repeat (first | apply Kd.S_alloc | apply Kd.S_drewN | apply Kd.S_drew)); exact HO_2.out) : p := h
theorem zav7 {p : Prop} (h : p := by (with_reducible repeat (first | apply Kd.R_alloc | apply Kd.R_drewN | apply Kd.R_drew)); exact HO136.out) : p := h
theorem zav6 {p : Prop} (h : p := by (try simp only [List.map_toArray, List.map_cons, List.map_nil]); first | done | rfl | (simp only [List.length_drop, List.length_take]; rfl)) : p := h
theorem zav5 {p : Prop} (h : p := by first | exact Kd.S_nil _ _ _ _ _ | exact Kd.N_nil _ _ _ _ _ | exact Kd.V_nil _ _ _ _ _ | exact Kd.Q_nil _ _ _ _ _ | exact Kd.R_nil _ _ _ _ _) : p := h
theorem zav4 {p : Prop} (h : p := by repeat (first | (with_reducible first | exact HB.out | apply below_alloc | apply pw_below_drewN | apply below_drew1 | refine below_set ?_ GE160.out) | exact HB.out)) : p := h
theorem zav3 {p : Prop} (h : p := by repeat (first | (with_reducible first | exact HI130.out | apply IsS161.alloc | apply IsS161.drewN | apply IsS161.drew | apply IsS161.set_0 | apply IsS161.set_1) | exact HI130.out)) : p := h
theorem zav2 {p : Prop} (h : p := by (with_reducible repeat (first | apply Kd.R_alloc | apply Kd.R_drewN | apply Kd.R_drew)); exact HO_28.out) : p := h
theorem zav1 {p : Prop} (h : p := by repeat (with_reducible first | exact HB.out | apply below_alloc | apply pw_below_drewN | apply below_drew1)) : p := h
theorem zav0 {p : Prop} (h : p := by repeat (first | (with_reducible first | exact HB.out | apply below_alloc | apply pw_below_drewN | apply below_drew1 | refine below_set ?_ (IsS161.ge HI130.out)) | exact HB.out)) : p := h
mutual
def relay_Tell.j0 : Nat → List (S55) → List ByteArray → Bool → Option ((List (S55)) × Bool)
 | 0, _, _, _ => none
 | k + 1, x2, x6, x27 => if x27 = true then (some (([] : List (S55)), false)) else (relay_Tell.l0 k x2 x6 (x6.length : Int) 0)
def relay_Tell.l0 : Nat → List (S55) → List ByteArray → Int → Int → Option ((List (S55)) × Bool)
 | 0, _, _, _, _ => none
 | k + 1, x2, x28, x29, x30 => if x30 < x29 then (if 0 ≤ x30 then (if x30 < (x28.length : Int) then ((patch_Decode.f k (rdOf ByteArray.empty x28 x30)).bind fun bt146 => (if bt146.2.2.2.2.2.2.2.2.2.2.2 = 0 then (if x2.length < 1172812402961 then (relay_Tell.l0 k (x2 ++ [(⟨bt146.1, bt146.2.1, (⟨bt146.2.2.1, bt146.2.2.2.1, bt146.2.2.2.2.1⟩ : S52), (⟨bt146.2.2.2.2.2.1, bt146.2.2.2.2.2.2.1, bt146.2.2.2.2.2.2.2.1⟩ : S52), bt146.2.2.2.2.2.2.2.2.1, bt146.2.2.2.2.2.2.2.2.2.1, bt146.2.2.2.2.2.2.2.2.2.2.1⟩ : S55)]) x28 x29 (wrap64 (x30 + 1))) else (none)) else (some (([] : List (S55)), false)))) else (none)) else (none)) else (some (x2, true))
end
def relay_Tell.f (k : Nat) (a0 : ByteArray) : Option ((List (S55)) × Bool) := (wire_New.f a0).bind fun bt128 => ((wire_Reader_Text.f k bt128.1 bt128.2).bind fun bt131 => ((wire_Reader_Texts.f k bt131.2.1 bt131.2.2).bind fun bt134 => (if bt131.1.toList = ([116, 111, 108, 100] : List UInt8) then ((wire_Reader_Bad.f bt134.2.1 bt134.2.2).bind fun bt139 => (if bt139.1 = true then (relay_Tell.j0 k ([] : List (S55)) bt134.1 true) else ((wire_Reader_Left.f bt139.2.1 bt139.2.2).bind fun bt142 => (relay_Tell.j0 k ([] : List (S55)) bt134.1 (decide (bt142.1 > 0)))))) else (relay_Tell.j0 k ([] : List (S55)) bt134.1 true))))
set_option maxHeartbeats 8000000 in
set_option maxRecDepth 100000 in
theorem relay_Tell.calls (k : Nat) (a0 : ByteArray) (r1 : List (S55)) (r2 : Bool) (w : World) (h : relay_Tell.f k a0 = some (r1, r2)) :
 Calls Try.prog 22 #[.string a0] w fun e w' => ∃ v0_ : Value, e = .returned (.tuple #[v0_, .bool r2]) ∧ Kd.S k55 55 w' w.heap.size (fun _ => True) v0_ r1 ∧ Below w.heap.size w w' := by
 have hu55 := Try.underlying55
 have HB := Aside0.mk (Below.refl w.heap.size w)
 have H : ((wire_New.f a0).bind fun bt128 => ((wire_Reader_Text.f k bt128.1 bt128.2).bind fun bt131 => ((wire_Reader_Texts.f k bt131.2.1 bt131.2.2).bind fun bt134 => (if bt131.1.toList = ([116, 111, 108, 100] : List UInt8) then ((wire_Reader_Bad.f bt134.2.1 bt134.2.2).bind fun bt139 => (if bt139.1 = true then (relay_Tell.j0 k ([] : List (S55)) bt134.1 true) else ((wire_Reader_Left.f bt139.2.1 bt139.2.2).bind fun bt142 => (relay_Tell.j0 k ([] : List (S55)) bt134.1 (decide (bt142.1 > 0)))))) else (relay_Tell.j0 k ([] : List (S55)) bt134.1 true))))) = some (r1, r2) := h
 clear h
 replace H := Option.bind_eq_some_iff.mp H
 obtain ⟨⟨t128, t129⟩, A20, H⟩ := H
 try dsimp only at H
 have A2 := Aside0.mk A20
 clear A20
 replace H := Option.bind_eq_some_iff.mp H
 obtain ⟨⟨t131, t132, t133⟩, A30, H⟩ := H
 try dsimp only at H
 have A3 := Aside0.mk A30
 clear A30
 replace H := Option.bind_eq_some_iff.mp H
 obtain ⟨⟨t134, t137, t138⟩, A40, H⟩ := H
 try dsimp only at H
 have A4 := Aside0.mk A40
 clear A40
 have HC5 := Aside0.mk H
 clear H
 go_enter Try.func22, Try.ntmps22
 go_upto_region 3 with (first | ((with_reducible refine gate_callee (f := 55) rfl ?_); refine goesL_ (some 12) rfl rfl Try.func55 (by kernel_rfl) rfl #[.string a0] rfl zav6 ?_; (with_reducible refine (wire_New.calls a0 t128 t129 w _ ?side1 A2.out).mono ?_); (case side1 => exact zav1); rintro e w6 ⟨g130, rfl, hi, hb, hb2⟩; refine ⟨_, rfl, ?_⟩; have n0_ := Aside0.mk (hb); have n1_ := Aside0.mk (hi); clear HB; have HB := n0_; have HI130 := n1_; clear n0_ n1_; (try clear hb); (try clear hb2); (try clear hk); (try clear hi)) | ((with_reducible refine gate_callee (f := 56) rfl ?_); refine goesL_ (some 14) rfl rfl Try.func56 (by kernel_rfl) rfl #[.pointer (some ⟨g130, 0, none⟩)] rfl zav6 ?_; (with_reducible refine (wire_Reader_Text.calls k g130 t128 t129 t131 t132 t133 w _ ?side1 ?side2 A3.out).mono ?_); (case side1 => exact zav3); (case side2 => exact zav0); rintro e w7 ⟨rfl, hi, hb, hk⟩; refine ⟨_, rfl, ?_⟩; have n0_ := Aside0.mk (hb); have n1_ := Aside0.mk (hi); clear HB; clear HI130; have HB := n0_; have HI130 := n1_; clear n0_ n1_; (try clear hb); (try clear hb2); (try clear hk); (try clear hi)) | ((with_reducible refine gate_callee (f := 61) rfl ?_); refine goesL_ (some 16) rfl rfl Try.func61 (by kernel_rfl) rfl #[.pointer (some ⟨g130, 0, none⟩)] rfl zav6 ?_; (with_reducible refine (wire_Reader_Texts.calls k g130 t132 t133 t134 t137 t138 w _ ?side1 ?side2 A4.out).mono ?_); (case side1 => exact zav3); (case side2 => exact zav0); rintro e w8 ⟨v135, rfl, ho0, hi, hb, hk⟩; refine ⟨_, rfl, ?_⟩; have n0_ := Aside0.mk (Kd.R_lower ho0 (below_size zav0)); have n1_ := Aside0.mk (hb); have n2_ := Aside0.mk (hi); clear HB; clear HI130; have HO136 := n0_; have HB := n1_; have HI130 := n2_; clear n0_ n1_ n2_; (try clear hb); (try clear hb2); (try clear hk); (try clear hi); (try clear ho0)))
 (try simp only [Act.put, List.setIfInBounds_toArray, List.set_cons_zero, List.set_cons_succ])
 go_cut [27] (fun v27 wc => ∃ (kq : Nat) (x27_4 : Bool), v27 = .bool x27_4 ∧ Aside0 (relay_Tell.j0 kq ([] : List (S55)) t134 x27_4 = some (r1, r2)) ∧ Aside0 (kq ≤ k) ∧ Aside0 (Kd.S k55 55 wc w.heap.size (fun k_ => some k_ ≠ (v135 : Value).ownBlock) (.slice none 0 0) ([] : List (S55))) ∧ Aside0 (Kd.R Kd.string 9 wc w.heap.size (fun _ => True) v135 t134) ∧ Aside0 (Below w.heap.size w wc))
 case first =>
  have H := HC5.out
  clear HC5
  by_cases c9 : t131.toList = ([116, 111, 108, 100] : List UInt8)
  · rw [if_pos c9] at H
    have c9b0 : (t131.toList == ([116, 111, 108, 100] : List UInt8)) = true := beq_iff_eq.mpr c9
    have c9b1 : (t131.toList != ([116, 111, 108, 100] : List UInt8)) = false := bne_eq_false_iff_eq.mpr c9
    clear c9
    (first | rw [c9b0] | (simp only [i64_w, i32_w]; rw [c9b0]) | skip)
    replace H := Option.bind_eq_some_iff.mp H
    obtain ⟨⟨t139, t140, t141⟩, A100, H⟩ := H
    try dsimp only at H
    have A10 := Aside0.mk A100
    clear A100
    by_cases c11 : t139 = true
    · subst c11
      rw [if_pos rfl] at H
      have H' := Aside0.mk H
      clear H
      go_wp2_with (first | (go_at_call 58; (with_reducible refine (wire_Reader_Bad.calls g130 t137 t138 true t140 t141 w _ ?side1 ?side2 A10.out).mono ?_); (case side1 => exact zav3); (case side2 => exact zav0); rintro e w12 ⟨rfl, hi, hb, hk⟩; have n0_ := Aside0.mk (Kd.R_mono (Kd.R_keep (IsS161.apart (show IsS161 w _ g130 t137 t138 from by repeat (first | (with_reducible first | exact HI130.out | apply IsS161.alloc | apply IsS161.drewN | apply IsS161.drew | apply IsS161.set_0 | apply IsS161.set_1) | exact HI130.out)) zav7 (by decide)) hk (fun _ h => h.2)) (fun _ h => h.1)); have n1_ := Aside0.mk (hb); have n2_ := Aside0.mk (hi); clear HO136; clear HB; clear HI130; have HO136 := n0_; have HB := n1_; have HI130 := n2_; clear n0_ n1_ n2_; (try clear hb); (try clear hb2); (try clear hk); (try clear hi)))
      go_meet
      case rel => exact ⟨_, (true), zav10, H', ⟨by first | omega | exact Nat.le_refl _⟩, ⟨zav5⟩, ⟨zav7⟩, ⟨zav0⟩⟩
    · replace c11 := Bool.eq_false_iff.mpr c11
      subst c11
      rw [if_neg (show ¬ (false = true) by decide)] at H
      replace H := Option.bind_eq_some_iff.mp H
      obtain ⟨⟨t142, t143, t144⟩, A130, H⟩ := H
      try dsimp only at H
      have A13 := Aside0.mk A130
      clear A130
      have H' := Aside0.mk H
      clear H
      go_wp2_with (first | (go_at_call 58; (with_reducible refine (wire_Reader_Bad.calls g130 t137 t138 false t140 t141 w _ ?side1 ?side2 A10.out).mono ?_); (case side1 => exact zav3); (case side2 => exact zav0); rintro e w14 ⟨rfl, hi, hb, hk⟩; have n0_ := Aside0.mk (Kd.R_mono (Kd.R_keep (IsS161.apart (show IsS161 w _ g130 t137 t138 from by repeat (first | (with_reducible first | exact HI130.out | apply IsS161.alloc | apply IsS161.drewN | apply IsS161.drew | apply IsS161.set_0 | apply IsS161.set_1) | exact HI130.out)) zav7 (by decide)) hk (fun _ h => h.2)) (fun _ h => h.1)); have n1_ := Aside0.mk (hb); have n2_ := Aside0.mk (hi); clear HO136; clear HB; clear HI130; have HO136 := n0_; have HB := n1_; have HI130 := n2_; clear n0_ n1_ n2_; (try clear hb); (try clear hb2); (try clear hk); (try clear hi)) | (go_at_call 59; (with_reducible refine (wire_Reader_Left.calls g130 t140 t141 t142 t143 t144 w _ ?side1 ?side2 A13.out).mono ?_); (case side1 => exact zav3); (case side2 => exact zav0); rintro e w15 ⟨rfl, hi, hb, hk⟩; have n0_ := Aside0.mk (Kd.R_mono (Kd.R_keep (IsS161.apart (show IsS161 w _ g130 t140 t141 from by repeat (first | (with_reducible first | exact HI130.out | apply IsS161.alloc | apply IsS161.drewN | apply IsS161.drew | apply IsS161.set_0 | apply IsS161.set_1) | exact HI130.out)) zav7 (by decide)) hk (fun _ h => h.2)) (fun _ h => h.1)); have n1_ := Aside0.mk (hb); have n2_ := Aside0.mk (hi); clear HO136; clear HB; clear HI130; have HO136 := n0_; have HB := n1_; have HI130 := n2_; clear n0_ n1_ n2_; (try clear hb); (try clear hb2); (try clear hk); (try clear hi)))
      go_meet
      case rel => exact ⟨_, (decide (t142 > 0)), zav10, H', ⟨by first | omega | exact Nat.le_refl _⟩, ⟨zav5⟩, ⟨zav7⟩, ⟨zav0⟩⟩
  · rw [if_neg c9] at H
    have c9b0 : (t131.toList == ([116, 111, 108, 100] : List UInt8)) = false := beq_eq_false_iff_ne.mpr c9
    have c9b1 : (t131.toList != ([116, 111, 108, 100] : List UInt8)) = true := bne_iff_ne.mpr c9
    (first | rw [c9b0] | (simp only [i64_w, i32_w]; rw [c9b0]) | skip)
    have H' := Aside0.mk H
    clear H
    go_wp2
    go_meet
    case rel => exact ⟨_, (true), zav10, H', ⟨by first | omega | exact Nat.le_refl _⟩, ⟨zav5⟩, ⟨zav7⟩, ⟨zav0⟩⟩
 case rest =>
  clear HC5
  try clear c1
  try clear c2
  try clear p2
  try clear c5
  try clear c6
  try clear c9
  try clear c9b0
  try clear c9b1
  try clear c11
  obtain ⟨kq, x27_4, rfl, HA, HJ4, HO_2, HO_6, HB⟩ := hcut
  cases kq with
  | zero => exact absurd HA.out (by simp [relay_Tell.j0])
  | succ kj4 =>
    have H := HA.out
    clear HA
    simp only [relay_Tell.j0] at H
    by_cases c16 : x27_4 = true
    · subst c16
      rw [if_pos rfl] at H
      simp only [Option.some.injEq, Prod.mk.injEq] at H
      obtain ⟨rfl, rfl⟩ := H
      go_wp2
      go_ret2
      exact ⟨_, zav9, zav5, zav1⟩
    · replace c16 := Bool.eq_false_iff.mpr c16
      subst c16
      rw [if_neg (show ¬ (false = true) by decide)] at H
      have H' := Aside0.mk H
      clear H
      obtain ⟨Ao17, co17, eo17⟩ := Kd.R_slice HO_6.out
      subst eo17
      go_wp2
      go_loopg [2, 30] kj4 (fun kq v2 v30 w' => ∃ (x2_2 : List (S55)) (x30_2 : Int), v30 = .int .i64 x30_2 ∧ Aside0 (relay_Tell.l0 kq x2_2 t134 (t134.length : Int) x30_2 = some (r1, r2)) ∧ Aside0 (kq ≤ kj4) ∧ Aside0 (Kd.S k55 55 w' w.heap.size (fun k_ => some k_ ≠ ((.slice Ao17 t134.length co17) : Value).ownBlock) v2 x2_2) ∧ Aside0 (Kd.R Kd.string 9 w' w.heap.size (fun _ => True) (.slice Ao17 t134.length co17) t134) ∧ Aside0 (Below w.heap.size w w'))
      case atStart => exact ⟨(([] : List (S55))), (0), zav10, H', ⟨Nat.le_refl _⟩, ⟨zav8⟩, ⟨by (with_reducible repeat (first | apply Kd.R_alloc | apply Kd.R_drewN | apply Kd.R_drew)); exact HO_6.out⟩, ⟨zav1⟩⟩
      case round =>
       clear H'
       try clear c1
       try clear c2
       try clear p2
       try clear c5
       try clear c6
       try clear c9
       try clear c9b0
       try clear c9b1
       try clear c11
       try clear c16
       try clear p2
       obtain ⟨x2_2, x30_2, rfl, HA, HK2, HO_2, HO_28, HB⟩ := hrel
       cases gk with
       | zero => exact absurd HA.out (by simp [relay_Tell.l0])
       | succ k2 =>
         have H := HA.out
         clear HA
         simp only [relay_Tell.l0] at H
         by_cases c18 : x30_2 < (t134.length : Int)
         · rw [if_pos c18] at H
           have c18b0 : decide (x30_2 < (t134.length : Int)) = true := decide_eq_true c18
           clear c18
           by_cases c19 : 0 ≤ x30_2
           · rw [if_pos c19] at H
             have c19b0 : decide (0 ≤ x30_2) = true := decide_eq_true c19
             clear c19
             by_cases c20 : x30_2 < (t134.length : Int)
             · rw [if_pos c20] at H
               have c20b0 : decide (x30_2 < (t134.length : Int)) = true := decide_eq_true c20
               clear c20
               replace H := Option.bind_eq_some_iff.mp H
               obtain ⟨⟨t146, t147, t148, t149, t150, t151, t152, t153, t154, t155, t156, t159⟩, A210, H⟩ := H
               try dsimp only at H
               have A21 := Aside0.mk A210
               clear A210
               by_cases c22 : t159 = 0
               · rw [if_pos c22] at H
                 have c22b0 : (t159 == 0) = true := beq_iff_eq.mpr c22
                 have c22b1 : (t159 != 0) = false := bne_eq_false_iff_eq.mpr c22
                 clear c22
                 by_cases c23 : x2_2.length < 1172812402961
                 · rw [if_pos c23] at H
                   have LMc23 := Aside0.mk c23
                   clear c23
                   obtain ⟨y161, hy161⟩ : ∃ y_ : List (S55), y_ = (x2_2 ++ [(⟨t146, t147, (⟨t148, t149, t150⟩ : S52), (⟨t151, t152, t153⟩ : S52), t154, t155, t156⟩ : S55)]) := ⟨_, rfl⟩
                   replace H : (relay_Tell.l0 k2 y161 t134 (t134.length : Int) (wrap64 (x30_2 + 1))) = some (r1, r2) := by first | (rw [hy161]; with_reducible exact H) | (have H2_ := (Option.bind_some _ _).symm.trans H; rw [hy161]; with_reducible exact H2_) | (have H2_ := (Option.bind_some _ _).symm.trans H; with_reducible exact H2_) | with_reducible exact H | (rw [hy161]; exact H) | exact H
                   have Ny161 := Aside0.mk hy161
                   clear hy161
                   have H' := Aside0.mk H
                   clear H
                   have p145 : 0 ≤ (x30_2 : Int) := of_decide_eq_true zav11
                   have q145 : x30_2 < (t134.length : Int) := of_decide_eq_true zav11
                   obtain ⟨ad145, e145, hx145_0⟩ := Kd.at_string (Kd.R_reads' HO_28.out).2.2 x30_2 p145 q145
                   cases e145
                   replace p145 := eq_true p145
                   replace q145 := eq_true q145
                   go_wp2_with (first | ((with_reducible refine gate_callee (f := 62) rfl ?_); refine goesL_ (some 36) rfl rfl Try.func62 (by kernel_rfl) rfl #[.string (rdOf ByteArray.empty t134 x30_2)] rfl zav6 ?_; (with_reducible refine (patch_Decode.calls k2 (rdOf ByteArray.empty t134 x30_2) t146 t147 t148 t149 t150 t151 t152 t153 t154 t155 t156 t159 _ A21.out).mono ?_); rintro e w24 ⟨v157, rfl, ho0, hb⟩; refine ⟨_, rfl, ?_⟩; have n0_ := Aside0.mk (Kd.S_elder' zav8 (Kd.R_base ho0) hb); have n1_ := Aside0.mk (Kd.R_elder' zav2 (Kd.R_base ho0) hb); have n2_ := Aside0.mk (Kd.R_lower (Kd.R_new' ho0 (Kd.R_lt zav2)) (below_size zav1)); have n3_ := Aside0.mk (below_step zav1 hb); clear HO_2; clear HO_28; clear HB; have HO_2 := n0_; have HO_28 := n1_; have HO158 := n2_; have HB := n3_; clear n0_ n1_ n2_ n3_; (try clear hb); (try clear hb2); (try clear hk); (try clear hi); (try clear ho0)) | ((with_reducible refine gate_dst (N := 9) rfl ?_); refine box_event ?hg (N := 9) ?hd (cs := #[.string (⟨#[]⟩ : ByteArray), .int .i64 0, .int .i64 0, .int .i64 0, .int .i64 0, .int .i64 0, .int .i64 0, .int .i64 0, .string (⟨#[]⟩ : ByteArray), .int .i64 0, .slice none 0 0]) (t := 55) ?hr ?_; (case hd => rfl); (case hg => rfl); (case hr => first | (go_simp; done) | (go_simp; rfl)); intro gb160 hg w25 hbox hb; have n0_ := Aside0.mk (Kd.S_below (Kd.S_elderB zav8 gb160 (Nat.le_of_eq hg.symm)) hb); have n1_ := Aside0.mk (Kd.R_below zav2 hb); have n2_ := Aside0.mk (Kd.R_below zav13 hb); have n3_ := Aside0.mk (below_step zav1 hb); have n4_ := Aside0.mk (hbox); have n5_ := Aside0.mk ((by rw [hg]; exact (below_size zav1) : w.heap.size ≤ gb160)); have n6_ := Aside0.mk ((by rw [hg]; exact (below_size zav1) : w.heap.size ≤ gb160)); clear HO_2; clear HO_28; clear HO158; clear HB; have HO_2 := n0_; have HO_28 := n1_; have HO158 := n2_; have HB := n3_; have BK160 := n4_; have GW160 := n5_; have GE160 := n6_; clear n0_ n1_ n2_ n3_ n4_ n5_ n6_; clear hb hbox hg; have hcz26_0 : w25.cell? ⟨gb160, 0, none⟩ = some (.string (⟨#[]⟩ : ByteArray)) := (blk_cell BK160.out 0).trans rfl; have hcz26_1 : w25.cell? ⟨gb160, 1, none⟩ = some (.int .i64 0) := (blk_cell BK160.out 1).trans rfl; have hcz26_2 : w25.cell? ⟨gb160, 2, none⟩ = some (.int .i64 0) := (blk_cell BK160.out 2).trans rfl; have hcz26_3 : w25.cell? ⟨gb160, 3, none⟩ = some (.int .i64 0) := (blk_cell BK160.out 3).trans rfl; have hcz26_4 : w25.cell? ⟨gb160, 4, none⟩ = some (.int .i64 0) := (blk_cell BK160.out 4).trans rfl; have hcz26_5 : w25.cell? ⟨gb160, 5, none⟩ = some (.int .i64 0) := (blk_cell BK160.out 5).trans rfl; have hcz26_6 : w25.cell? ⟨gb160, 6, none⟩ = some (.int .i64 0) := (blk_cell BK160.out 6).trans rfl; have hcz26_7 : w25.cell? ⟨gb160, 7, none⟩ = some (.int .i64 0) := (blk_cell BK160.out 7).trans rfl; have hcz26_8 : w25.cell? ⟨gb160, 8, none⟩ = some (.string (⟨#[]⟩ : ByteArray)) := (blk_cell BK160.out 8).trans rfl; have hcz26_9 : w25.cell? ⟨gb160, 9, none⟩ = some (.int .i64 0) := (blk_cell BK160.out 9).trans rfl; have hcz26_10 : w25.cell? ⟨gb160, 10, none⟩ = some (.slice none 0 0) := (blk_cell BK160.out 10).trans rfl; have hfz26_0 := blk_frozen BK160.out 0; have hfz26_1 := blk_frozen BK160.out 1; have hfz26_2 := blk_frozen BK160.out 2; have hfz26_3 := blk_frozen BK160.out 3; have hfz26_4 := blk_frozen BK160.out 4; have hfz26_5 := blk_frozen BK160.out 5; have hfz26_6 := blk_frozen BK160.out 6; have hfz26_7 := blk_frozen BK160.out 7; have hfz26_8 := blk_frozen BK160.out 8; have hfz26_9 := blk_frozen BK160.out 9; have hfz26_10 := blk_frozen BK160.out 10; obtain ⟨Ao27, co27, eo27⟩ := Kd.R_slice HO158.out; subst eo27) | ((with_reducible refine gate_store (t := 55) (p := 9) rfl ?_); refine store_event (t := 55) (p := 9) (v := ?vo_w28) (w1 := (((((((((((w25.setCell ⟨gb160, 0, none⟩ (.string t146)).setCell ⟨gb160, 1, none⟩ (.int .i64 t147)).setCell ⟨gb160, 2, none⟩ (.int .i64 t148)).setCell ⟨gb160, 3, none⟩ (.int .i64 t149)).setCell ⟨gb160, 4, none⟩ (.int .i64 t150)).setCell ⟨gb160, 5, none⟩ (.int .i64 t151)).setCell ⟨gb160, 6, none⟩ (.int .i64 t152)).setCell ⟨gb160, 7, none⟩ (.int .i64 t153)).setCell ⟨gb160, 8, none⟩ (.string t154)).setCell ⟨gb160, 9, none⟩ (.int .i64 t155)).setCell ⟨gb160, 10, none⟩ (.slice Ao27 t156.length co27))) ?hg ?ho ?hn ?hr ?_; (case ho => rfl); (case hg => rfl); (case hn => rfl); (case hr => first | (go_simp; done) | (go_simp; rfl)); intro w28 hw; have n0_ : Aside0 (Kd.S k55 55 w28 w.heap.size (fun k_ => some k_ ≠ (.slice (some ad145) t134.length co17 : Value).ownBlock ∧ some k_ ≠ (.slice Ao27 t156.length co27 : Value).ownBlock ∧ k_ ≠ gb160) u2 x2_2) := ⟨(by rw [hw]; exact (by (with_reducible repeat (first | apply Kd.S_alloc | apply Kd.S_drewN | apply Kd.S_drew)); exact Kd.S_mono (Kd.S_far (p := ⟨gb160, 10, none⟩) (Kd.S_far (p := ⟨gb160, 9, none⟩) (Kd.S_far (p := ⟨gb160, 8, none⟩) (Kd.S_far (p := ⟨gb160, 7, none⟩) (Kd.S_far (p := ⟨gb160, 6, none⟩) (Kd.S_far (p := ⟨gb160, 5, none⟩) (Kd.S_far (p := ⟨gb160, 4, none⟩) (Kd.S_far (p := ⟨gb160, 3, none⟩) (Kd.S_far (p := ⟨gb160, 2, none⟩) (Kd.S_far (p := ⟨gb160, 1, none⟩) (Kd.S_far (p := ⟨gb160, 0, none⟩) (Kd.S_mono HO_2.out (fun k_ hk => (⟨hk, hk.2⟩ : _ ∧ k_ ≠ gb160))) (fun _ hk => hk.2) (.string t146)) (fun _ hk => hk.2) (.int .i64 t147)) (fun _ hk => hk.2) (.int .i64 t148)) (fun _ hk => hk.2) (.int .i64 t149)) (fun _ hk => hk.2) (.int .i64 t150)) (fun _ hk => hk.2) (.int .i64 t151)) (fun _ hk => hk.2) (.int .i64 t152)) (fun _ hk => hk.2) (.int .i64 t153)) (fun _ hk => hk.2) (.string t154)) (fun _ hk => hk.2) (.int .i64 t155)) (fun _ hk => hk.2) (.slice Ao27 t156.length co27)) (fun _ hk => ⟨hk.1.1.1, ⟨hk.1.1.2, hk.1.2⟩⟩)))⟩; have n1_ : Aside0 (Kd.R Kd.string 9 w28 w.heap.size (fun k_ => some k_ ≠ (.slice Ao27 t156.length co27 : Value).ownBlock) (.slice (some ad145) t134.length co17) t134) := ⟨(by rw [hw]; exact (by (with_reducible repeat (first | apply Kd.R_alloc | apply Kd.R_drewN | apply Kd.R_drew)); exact Kd.R_mono (Kd.R_far (p := ⟨gb160, 10, none⟩) (Kd.R_far (p := ⟨gb160, 9, none⟩) (Kd.R_far (p := ⟨gb160, 8, none⟩) (Kd.R_far (p := ⟨gb160, 7, none⟩) (Kd.R_far (p := ⟨gb160, 6, none⟩) (Kd.R_far (p := ⟨gb160, 5, none⟩) (Kd.R_far (p := ⟨gb160, 4, none⟩) (Kd.R_far (p := ⟨gb160, 3, none⟩) (Kd.R_far (p := ⟨gb160, 2, none⟩) (Kd.R_far (p := ⟨gb160, 1, none⟩) (Kd.R_far (p := ⟨gb160, 0, none⟩) (Kd.R_types HO_28.out BK160.out (by decide)) (fun _ hk => hk.2) (.string t146)) (fun _ hk => hk.2) (.int .i64 t147)) (fun _ hk => hk.2) (.int .i64 t148)) (fun _ hk => hk.2) (.int .i64 t149)) (fun _ hk => hk.2) (.int .i64 t150)) (fun _ hk => hk.2) (.int .i64 t151)) (fun _ hk => hk.2) (.int .i64 t152)) (fun _ hk => hk.2) (.int .i64 t153)) (fun _ hk => hk.2) (.string t154)) (fun _ hk => hk.2) (.int .i64 t155)) (fun _ hk => hk.2) (.slice Ao27 t156.length co27)) (fun _ hk => hk.1.2)))⟩; have n2_ : Aside0 (Kd.R Kd.string 9 w28 w.heap.size (fun k_ => some k_ ≠ (.slice (some ad145) t134.length co17 : Value).ownBlock) (.slice Ao27 t156.length co27) t156) := ⟨(by rw [hw]; exact (by (with_reducible repeat (first | apply Kd.R_alloc | apply Kd.R_drewN | apply Kd.R_drew)); exact Kd.R_mono (Kd.R_far (p := ⟨gb160, 10, none⟩) (Kd.R_far (p := ⟨gb160, 9, none⟩) (Kd.R_far (p := ⟨gb160, 8, none⟩) (Kd.R_far (p := ⟨gb160, 7, none⟩) (Kd.R_far (p := ⟨gb160, 6, none⟩) (Kd.R_far (p := ⟨gb160, 5, none⟩) (Kd.R_far (p := ⟨gb160, 4, none⟩) (Kd.R_far (p := ⟨gb160, 3, none⟩) (Kd.R_far (p := ⟨gb160, 2, none⟩) (Kd.R_far (p := ⟨gb160, 1, none⟩) (Kd.R_far (p := ⟨gb160, 0, none⟩) (Kd.R_types HO158.out BK160.out (by decide)) (fun _ hk => hk.2) (.string t146)) (fun _ hk => hk.2) (.int .i64 t147)) (fun _ hk => hk.2) (.int .i64 t148)) (fun _ hk => hk.2) (.int .i64 t149)) (fun _ hk => hk.2) (.int .i64 t150)) (fun _ hk => hk.2) (.int .i64 t151)) (fun _ hk => hk.2) (.int .i64 t152)) (fun _ hk => hk.2) (.int .i64 t153)) (fun _ hk => hk.2) (.string t154)) (fun _ hk => hk.2) (.int .i64 t155)) (fun _ hk => hk.2) (.slice Ao27 t156.length co27)) (fun _ hk => hk.1.2)))⟩; have n3_ : Aside0 (w28.heap[gb160]? = some (.cells #[.string t146, .int .i64 t147, .int .i64 t148, .int .i64 t149, .int .i64 t150, .int .i64 t151, .int .i64 t152, .int .i64 t153, .string t154, .int .i64 t155, .slice Ao27 t156.length co27] 55 (0, 0))) := ⟨(by rw [hw]; exact (by (with_reducible repeat (first | refine blk_drewN ?_ _ | refine blk_drew ?_ | refine blk_alloc ?_ _)); refine blk_put (cs := #[.string t146, .int .i64 t147, .int .i64 t148, .int .i64 t149, .int .i64 t150, .int .i64 t151, .int .i64 t152, .int .i64 t153, .string t154, .int .i64 t155, .slice none 0 0]) ?_ 10 _ rfl; (with_reducible repeat (first | refine blk_drewN ?_ _ | refine blk_drew ?_ | refine blk_alloc ?_ _)); refine blk_put (cs := #[.string t146, .int .i64 t147, .int .i64 t148, .int .i64 t149, .int .i64 t150, .int .i64 t151, .int .i64 t152, .int .i64 t153, .string t154, .int .i64 0, .slice none 0 0]) ?_ 9 _ rfl; (with_reducible repeat (first | refine blk_drewN ?_ _ | refine blk_drew ?_ | refine blk_alloc ?_ _)); refine blk_put (cs := #[.string t146, .int .i64 t147, .int .i64 t148, .int .i64 t149, .int .i64 t150, .int .i64 t151, .int .i64 t152, .int .i64 t153, .string (⟨#[]⟩ : ByteArray), .int .i64 0, .slice none 0 0]) ?_ 8 _ rfl; (with_reducible repeat (first | refine blk_drewN ?_ _ | refine blk_drew ?_ | refine blk_alloc ?_ _)); refine blk_put (cs := #[.string t146, .int .i64 t147, .int .i64 t148, .int .i64 t149, .int .i64 t150, .int .i64 t151, .int .i64 t152, .int .i64 0, .string (⟨#[]⟩ : ByteArray), .int .i64 0, .slice none 0 0]) ?_ 7 _ rfl; (with_reducible repeat (first | refine blk_drewN ?_ _ | refine blk_drew ?_ | refine blk_alloc ?_ _)); refine blk_put (cs := #[.string t146, .int .i64 t147, .int .i64 t148, .int .i64 t149, .int .i64 t150, .int .i64 t151, .int .i64 0, .int .i64 0, .string (⟨#[]⟩ : ByteArray), .int .i64 0, .slice none 0 0]) ?_ 6 _ rfl; (with_reducible repeat (first | refine blk_drewN ?_ _ | refine blk_drew ?_ | refine blk_alloc ?_ _)); refine blk_put (cs := #[.string t146, .int .i64 t147, .int .i64 t148, .int .i64 t149, .int .i64 t150, .int .i64 0, .int .i64 0, .int .i64 0, .string (⟨#[]⟩ : ByteArray), .int .i64 0, .slice none 0 0]) ?_ 5 _ rfl; (with_reducible repeat (first | refine blk_drewN ?_ _ | refine blk_drew ?_ | refine blk_alloc ?_ _)); refine blk_put (cs := #[.string t146, .int .i64 t147, .int .i64 t148, .int .i64 t149, .int .i64 0, .int .i64 0, .int .i64 0, .int .i64 0, .string (⟨#[]⟩ : ByteArray), .int .i64 0, .slice none 0 0]) ?_ 4 _ rfl; (with_reducible repeat (first | refine blk_drewN ?_ _ | refine blk_drew ?_ | refine blk_alloc ?_ _)); refine blk_put (cs := #[.string t146, .int .i64 t147, .int .i64 t148, .int .i64 0, .int .i64 0, .int .i64 0, .int .i64 0, .int .i64 0, .string (⟨#[]⟩ : ByteArray), .int .i64 0, .slice none 0 0]) ?_ 3 _ rfl; (with_reducible repeat (first | refine blk_drewN ?_ _ | refine blk_drew ?_ | refine blk_alloc ?_ _)); refine blk_put (cs := #[.string t146, .int .i64 t147, .int .i64 0, .int .i64 0, .int .i64 0, .int .i64 0, .int .i64 0, .int .i64 0, .string (⟨#[]⟩ : ByteArray), .int .i64 0, .slice none 0 0]) ?_ 2 _ rfl; (with_reducible repeat (first | refine blk_drewN ?_ _ | refine blk_drew ?_ | refine blk_alloc ?_ _)); refine blk_put (cs := #[.string t146, .int .i64 0, .int .i64 0, .int .i64 0, .int .i64 0, .int .i64 0, .int .i64 0, .int .i64 0, .string (⟨#[]⟩ : ByteArray), .int .i64 0, .slice none 0 0]) ?_ 1 _ rfl; (with_reducible repeat (first | refine blk_drewN ?_ _ | refine blk_drew ?_ | refine blk_alloc ?_ _)); refine blk_put (cs := #[.string (⟨#[]⟩ : ByteArray), .int .i64 0, .int .i64 0, .int .i64 0, .int .i64 0, .int .i64 0, .int .i64 0, .int .i64 0, .string (⟨#[]⟩ : ByteArray), .int .i64 0, .slice none 0 0]) ?_ 0 _ rfl; (with_reducible repeat (first | refine blk_drewN ?_ _ | refine blk_drew ?_ | refine blk_alloc ?_ _)); exact BK160.out))⟩; have n4_ : Aside0 (Below w.heap.size w w28) := ⟨(by rw [hw]; exact zav4)⟩; clear hw; clear HO_2; clear HO_28; clear HO158; clear BK160; clear HB; have HO_2 := n0_; have HO_28 := n1_; have HO158 := n2_; have BK160 := n3_; have HB := n4_; clear n0_ n1_ n2_ n3_ n4_; have hcz29_0 : w28.cell? ⟨gb160, 0, none⟩ = some (.string t146) := (blk_cell BK160.out 0).trans rfl; have hcz29_1 : w28.cell? ⟨gb160, 1, none⟩ = some (.int .i64 t147) := (blk_cell BK160.out 1).trans rfl; have hcz29_2 : w28.cell? ⟨gb160, 2, none⟩ = some (.int .i64 t148) := (blk_cell BK160.out 2).trans rfl; have hcz29_3 : w28.cell? ⟨gb160, 3, none⟩ = some (.int .i64 t149) := (blk_cell BK160.out 3).trans rfl; have hcz29_4 : w28.cell? ⟨gb160, 4, none⟩ = some (.int .i64 t150) := (blk_cell BK160.out 4).trans rfl; have hcz29_5 : w28.cell? ⟨gb160, 5, none⟩ = some (.int .i64 t151) := (blk_cell BK160.out 5).trans rfl; have hcz29_6 : w28.cell? ⟨gb160, 6, none⟩ = some (.int .i64 t152) := (blk_cell BK160.out 6).trans rfl; have hcz29_7 : w28.cell? ⟨gb160, 7, none⟩ = some (.int .i64 t153) := (blk_cell BK160.out 7).trans rfl; have hcz29_8 : w28.cell? ⟨gb160, 8, none⟩ = some (.string t154) := (blk_cell BK160.out 8).trans rfl; have hcz29_9 : w28.cell? ⟨gb160, 9, none⟩ = some (.int .i64 t155) := (blk_cell BK160.out 9).trans rfl; have hcz29_10 : w28.cell? ⟨gb160, 10, none⟩ = some (.slice Ao27 t156.length co27) := (blk_cell BK160.out 10).trans rfl; have hfz29_0 := blk_frozen BK160.out 0; have hfz29_1 := blk_frozen BK160.out 1; have hfz29_2 := blk_frozen BK160.out 2; have hfz29_3 := blk_frozen BK160.out 3; have hfz29_4 := blk_frozen BK160.out 4; have hfz29_5 := blk_frozen BK160.out 5; have hfz29_6 := blk_frozen BK160.out 6; have hfz29_7 := blk_frozen BK160.out 7; have hfz29_8 := blk_frozen BK160.out 8; have hfz29_9 := blk_frozen BK160.out 9; have hfz29_10 := blk_frozen BK160.out 10) | ((with_reducible refine gate_builtin (b := .append) (xs := #[.tmp 41, .tmp 43]) rfl ?_); at_builtin; refine Kd.S_append k55 (w0 := w) w.heap.size rfl (.tmp 41) (.tmp 43) 42 55 (.agg #[(.string ⟨#[]⟩), (.int .i64 0), (.int .i64 0), (.int .i64 0), (.int .i64 0), (.int .i64 0), (.int .i64 0), (.int .i64 0), (.string ⟨#[]⟩), (.int .i64 0), (.slice none 0 0)]) 120 rfl Try.underlying42 info55 rfl (by decide) (by omega) u2 x2_2 (⟨t146, t147, (⟨t148, t149, t150⟩ : S52), (⟨t151, t152, t153⟩ : S52), t154, t155, t156⟩ : S55) [.string t146, .int .i64 t147, .int .i64 t148, .int .i64 t149, .int .i64 t150, .int .i64 t151, .int .i64 t152, .int .i64 t153, .string t154, .int .i64 t155, .slice Ao27 t156.length co27] (fun k_ => some k_ ≠ (.slice (some ad145) t134.length co17 : Value).ownBlock ∧ k_ ≠ gb160) (fun k_ => some k_ = (.slice Ao27 t156.length co27 : Value).ownBlock) rfl rfl ?aP (fun k_ hk_ => ((Kd.R_mono (ok' := fun k_ => ((fun k_ => some k_ ≠ (.slice (some ad145) t134.length co17 : Value).ownBlock ∧ k_ ≠ gb160)) k_ ∧ some k_ ≠ (u2 : Value).ownBlock) (Kd.R_types (Kd.R_apart' (HO158.out) (Kd.S_typed HO_2.out) (by decide)) BK160.out (by decide)) (fun k_ hk => ⟨⟨hk.1.1, hk.2⟩, hk.1.2⟩))).1 k_ hk_.symm) ?aF ?aO ?aB ?aS ?aL ?_; (case aP => exact k55_mkM _ _ _ (⟨t146, t147, (⟨t148, t149, t150⟩ : S52), (⟨t151, t152, t153⟩ : S52), t154, t155, t156⟩ : S55) (Kd.R_mono (Kd.R_tight rfl (Kd.R_mono (ok' := fun k_ => ((fun k_ => some k_ ≠ (.slice (some ad145) t134.length co17 : Value).ownBlock ∧ k_ ≠ gb160)) k_ ∧ some k_ ≠ (u2 : Value).ownBlock) (Kd.R_types (Kd.R_apart' (HO158.out) (Kd.S_typed HO_2.out) (by decide)) BK160.out (by decide)) (fun k_ hk => ⟨⟨hk.1.1, hk.2⟩, hk.1.2⟩))) (fun _ h_ => h_))); (case aB => exact zav4); (case aF => exact (fun k_ hk => ⟨Kd.fresh' (Kd.R_lt zav2) k_ hk, Kd.freshB (g := gb160) (o := .cells #[.string t146, .int .i64 t147, .int .i64 t148, .int .i64 t149, .int .i64 t150, .int .i64 t151, .int .i64 t152, .int .i64 t153, .string t154, .int .i64 t155, .slice Ao27 t156.length co27] 55 (0, 0)) zav12 k_ hk⟩)); (case aO => exact (by (with_reducible repeat (first | apply Kd.S_alloc | apply Kd.S_drewN | apply Kd.S_drew)); exact Kd.S_mono HO_2.out (fun k_ hk => ⟨⟨hk.1, hk.2.2⟩, fun e_ => hk.2.1 e_⟩))); (case aS => exact (below_size zav4)); (case aL => have := LMc23.out; omega); intro v162 w30 ho hb hg hat; rw [← Ny161.out] at ho; have n0_ := Aside0.mk (Kd.R_over' zav2 (Kd.S_typed zav8) (by decide) hg); have n1_ := Aside0.mk (blk_grown (g := gb160) (o := .cells #[.string t146, .int .i64 t147, .int .i64 t148, .int .i64 t149, .int .i64 t150, .int .i64 t151, .int .i64 t152, .int .i64 t153, .string t154, .int .i64 t155, .slice Ao27 t156.length co27] 55 (0, 0)) zav12 hg (Kd.S_away HO_2.out (fun _ hk => hk.2.2))); have n2_ := Aside0.mk (hb); have n3_ := Aside0.mk (ho); clear HO_28; clear BK160; clear HB; clear HO_2; clear HO158; have HO_28 := n0_; have BK160 := n1_; have HB := n2_; have HO163 := n3_; clear n0_ n1_ n2_ n3_; clear ho hb hg hat))
                   go_roundg k2
                   case measure => have := HJ4.out; have := HK2.out; omega
                   case rel => exact ⟨(y161), (wrap64 (x30_2 + 1)), zav10, H', ⟨by have := HJ4.out; have := HK2.out; omega⟩, ⟨by (with_reducible repeat (first | apply Kd.S_alloc | apply Kd.S_drewN | apply Kd.S_drew)); exact Kd.S_mono HO163.out (fun _ hk => hk.1)⟩, ⟨by (with_reducible repeat (first | apply Kd.R_alloc | apply Kd.R_drewN | apply Kd.R_drew)); exact Kd.R_mono HO_28.out (fun _ hk => trivial)⟩, ⟨zav4⟩⟩
                 · rw [if_neg c23] at H
                   exact absurd H (by simp)
               · rw [if_neg c22] at H
                 have c22b0 : (t159 == 0) = false := beq_eq_false_iff_ne.mpr c22
                 have c22b1 : (t159 != 0) = true := bne_iff_ne.mpr c22
                 simp only [Option.some.injEq, Prod.mk.injEq] at H
                 obtain ⟨rfl, rfl⟩ := H
                 have p145 : 0 ≤ (x30_2 : Int) := of_decide_eq_true zav11
                 have q145 : x30_2 < (t134.length : Int) := of_decide_eq_true zav11
                 obtain ⟨ad145, e145, hx145_0⟩ := Kd.at_string (Kd.R_reads' HO_28.out).2.2 x30_2 p145 q145
                 cases e145
                 replace p145 := eq_true p145
                 replace q145 := eq_true q145
                 go_wp2_with (first | ((with_reducible refine gate_callee (f := 62) rfl ?_); refine goesL_ (some 36) rfl rfl Try.func62 (by kernel_rfl) rfl #[.string (rdOf ByteArray.empty t134 x30_2)] rfl zav6 ?_; (with_reducible refine (patch_Decode.calls k2 (rdOf ByteArray.empty t134 x30_2) t146 t147 t148 t149 t150 t151 t152 t153 t154 t155 t156 t159 _ A21.out).mono ?_); rintro e w31 ⟨v157, rfl, ho0, hb⟩; refine ⟨_, rfl, ?_⟩; have n0_ := Aside0.mk (Kd.S_elder' zav8 (Kd.R_base ho0) hb); have n1_ := Aside0.mk (Kd.R_elder' zav2 (Kd.R_base ho0) hb); have n2_ := Aside0.mk (Kd.R_lower (Kd.R_new' ho0 (Kd.R_lt zav2)) (below_size zav1)); have n3_ := Aside0.mk (below_step zav1 hb); clear HO_2; clear HO_28; clear HB; have HO_2 := n0_; have HO_28 := n1_; have HO158 := n2_; have HB := n3_; clear n0_ n1_ n2_ n3_; (try clear hb); (try clear hb2); (try clear hk); (try clear hi); (try clear ho0)) | ((with_reducible refine gate_dst (N := 9) rfl ?_); refine box_event ?hg (N := 9) ?hd (cs := #[.string (⟨#[]⟩ : ByteArray), .int .i64 0, .int .i64 0, .int .i64 0, .int .i64 0, .int .i64 0, .int .i64 0, .int .i64 0, .string (⟨#[]⟩ : ByteArray), .int .i64 0, .slice none 0 0]) (t := 55) ?hr ?_; (case hd => rfl); (case hg => rfl); (case hr => first | (go_simp; done) | (go_simp; rfl)); intro gb160 hg w32 hbox hb; have n0_ := Aside0.mk (Kd.S_below (Kd.S_elderB zav8 gb160 (Nat.le_of_eq hg.symm)) hb); have n1_ := Aside0.mk (Kd.R_below zav2 hb); have n2_ := Aside0.mk (Kd.R_below zav13 hb); have n3_ := Aside0.mk (below_step zav1 hb); have n4_ := Aside0.mk (hbox); have n5_ := Aside0.mk ((by rw [hg]; exact (below_size zav1) : w.heap.size ≤ gb160)); have n6_ := Aside0.mk ((by rw [hg]; exact (below_size zav1) : w.heap.size ≤ gb160)); clear HO_2; clear HO_28; clear HO158; clear HB; have HO_2 := n0_; have HO_28 := n1_; have HO158 := n2_; have HB := n3_; have BK160 := n4_; have GW160 := n5_; have GE160 := n6_; clear n0_ n1_ n2_ n3_ n4_ n5_ n6_; clear hb hbox hg; have hcz33_0 : w32.cell? ⟨gb160, 0, none⟩ = some (.string (⟨#[]⟩ : ByteArray)) := (blk_cell BK160.out 0).trans rfl; have hcz33_1 : w32.cell? ⟨gb160, 1, none⟩ = some (.int .i64 0) := (blk_cell BK160.out 1).trans rfl; have hcz33_2 : w32.cell? ⟨gb160, 2, none⟩ = some (.int .i64 0) := (blk_cell BK160.out 2).trans rfl; have hcz33_3 : w32.cell? ⟨gb160, 3, none⟩ = some (.int .i64 0) := (blk_cell BK160.out 3).trans rfl; have hcz33_4 : w32.cell? ⟨gb160, 4, none⟩ = some (.int .i64 0) := (blk_cell BK160.out 4).trans rfl; have hcz33_5 : w32.cell? ⟨gb160, 5, none⟩ = some (.int .i64 0) := (blk_cell BK160.out 5).trans rfl; have hcz33_6 : w32.cell? ⟨gb160, 6, none⟩ = some (.int .i64 0) := (blk_cell BK160.out 6).trans rfl; have hcz33_7 : w32.cell? ⟨gb160, 7, none⟩ = some (.int .i64 0) := (blk_cell BK160.out 7).trans rfl; have hcz33_8 : w32.cell? ⟨gb160, 8, none⟩ = some (.string (⟨#[]⟩ : ByteArray)) := (blk_cell BK160.out 8).trans rfl; have hcz33_9 : w32.cell? ⟨gb160, 9, none⟩ = some (.int .i64 0) := (blk_cell BK160.out 9).trans rfl; have hcz33_10 : w32.cell? ⟨gb160, 10, none⟩ = some (.slice none 0 0) := (blk_cell BK160.out 10).trans rfl; have hfz33_0 := blk_frozen BK160.out 0; have hfz33_1 := blk_frozen BK160.out 1; have hfz33_2 := blk_frozen BK160.out 2; have hfz33_3 := blk_frozen BK160.out 3; have hfz33_4 := blk_frozen BK160.out 4; have hfz33_5 := blk_frozen BK160.out 5; have hfz33_6 := blk_frozen BK160.out 6; have hfz33_7 := blk_frozen BK160.out 7; have hfz33_8 := blk_frozen BK160.out 8; have hfz33_9 := blk_frozen BK160.out 9; have hfz33_10 := blk_frozen BK160.out 10; obtain ⟨Ao34, co34, eo34⟩ := Kd.R_slice HO158.out; subst eo34))
                 go_ret2
                 exact ⟨_, zav9, zav5, zav4⟩
             · rw [if_neg c20] at H
               exact absurd H (by simp)
           · rw [if_neg c19] at H
             exact absurd H (by simp)
         · rw [if_neg c18] at H
           have c18b0 : decide (x30_2 < (t134.length : Int)) = false := decide_eq_false c18
           clear c18
           simp only [Option.some.injEq, Prod.mk.injEq] at H
           obtain ⟨rfl, rfl⟩ := H
           go_wp2
           go_ret2
           exact ⟨_, zav9, by (with_reducible repeat (first | apply Kd.S_alloc | apply Kd.S_drewN | apply Kd.S_drew)); exact Kd.S_mono HO_2.out (fun _ hk => trivial), zav1⟩

end Go.Proofs.Ythokkeljfdfppaa.Pb
