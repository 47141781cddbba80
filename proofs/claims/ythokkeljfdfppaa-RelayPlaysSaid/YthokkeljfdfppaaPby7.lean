import Derived.Test.YthokkeljfdfppaaRlK
namespace Go.Proofs.Ythokkeljfdfppaa.Pb
open Go.RowKit Go.Proofs.Ythokkeljfdfppaa.Gw Go.Proofs.Ythokkeljfdfppaa.Rl Go.Proofs.YthokkeljfdfppaaW.PrintWords Go.Proofs.YthokkeljfdfppaaW.PrintLast Go.Proofs.YthokkeljfdfppaaW.PrintMore
open Go.Proofs.Ythokkeljfdfppaa.Gw
open Go.Proofs.Ythokkeljfdfppaa.Rl
attribute [local go_sem] max2_int min2_int max_two min_two max_three min_three max_four min_four   -- for this text's walks alone
set_option linter.unusedVariables false
set_option linter.unusedSimpArgs false

theorem zaw14 {p : Prop} (h : p := by (with_reducible repeat (first | apply Kd.R_alloc | apply Kd.R_drewN | apply Kd.R_drew)); exact HO268.out) : p := h
theorem zaw13 {p : Prop} (h : p := by (with_reducible repeat (first | refine blk_drewN ?_ _ | refine blk_drew ?_ | refine blk_alloc ?_ _)); exact BK270.out) : p := h
theorem zaw12 {p : Prop} (h : p := by first | (with_reducible assumption) | assumption) : p := h
theorem zaw11 {p : Prop} (h : p := by repeat (first | exact (Kd.S_reads' HO_7.out).2.2 | (with_reducible refine Kd.C_alloc ?_ _) | (with_reducible refine Kd.C_drewN ?_ _) | (with_reducible refine Kd.C_drew ?_))) : p := h
theorem zaw10 {p : Prop} (h : p := by first | rfl | (simp; done) | (simp [*]; done)) : p := h
theorem zaw9 {p : Prop} (h : p := by first | rfl | (simp [errW_none, errW_some] <;> rfl) | (simp [*, errW_none, errW_some] <;> rfl)) : p := h
theorem zaw8 {p : Prop} (h : p := by (with_reducible repeat (first | apply Kd.R_alloc | apply Kd.R_drewN | apply Kd.R_drew)); exact HO247.out) : p := h
theorem zaw7 {p : Prop} (h : p := by first | exact Kd.S_nil _ _ _ _ _ | exact Kd.N_nil _ _ _ _ _ | exact Kd.V_nil _ _ _ _ _ | exact Kd.Q_nil _ _ _ _ _ | exact Kd.R_nil _ _ _ _ _) : p := h
theorem zaw6 {p : Prop} (h : p := by repeat (first | (with_reducible first | exact HI240.out | apply IsS111.alloc | apply IsS111.drewN | apply IsS111.drew | apply IsS111.set_0 | apply IsS111.set_1 | apply IsS111.set_2) | exact HI240.out)) : p := h
theorem zaw5 {p : Prop} (h : p := by (with_reducible repeat (first | apply Kd.S_alloc | apply Kd.S_drewN | apply Kd.S_drew)); exact HO_7.out) : p := h
theorem zaw4 {p : Prop} (h : p := by repeat (first | (with_reducible first | exact HB.out | apply below_alloc | apply pw_below_drewN | apply below_drew1 | refine below_set ?_ GE270.out) | exact HB.out)) : p := h
theorem zaw3 {p : Prop} (h : p := by (try simp only [List.map_toArray, List.map_cons, List.map_nil]); first | done | rfl | (simp only [List.length_drop, List.length_take]; rfl)) : p := h
theorem zaw2 {p : Prop} (h : p := by (with_reducible repeat (first | apply Kd.R_alloc | apply Kd.R_drewN | apply Kd.R_drew)); exact HO_6.out) : p := h
theorem zaw1 {p : Prop} (h : p := by repeat (first | (with_reducible first | exact HB.out | apply below_alloc | apply pw_below_drewN | apply below_drew1 | refine below_set ?_ (IsS111.ge HI240.out)) | exact HB.out)) : p := h
theorem zaw0 {p : Prop} (h : p := by repeat (with_reducible first | exact HB.out | apply below_alloc | apply pw_below_drewN | apply below_drew1)) : p := h
mutual
def abugidaref35_Tell.j0 : Nat → ByteArray → List ByteArray → Bool → Option ((List (S55)) × Bool)
 | 0, _, _, _ => none
 | k + 1, x0, x6, x29 => if x29 = true then (some (([] : List (S55)), false)) else (abugidaref35_Tell.l0 k x0 x6 ([] : List (S55)) 0)
def abugidaref35_Tell.l0 : Nat → ByteArray → List ByteArray → List (S55) → Int → Option ((List (S55)) × Bool)
 | 0, _, _, _, _ => none
 | k + 1, x0, x6, x7, x8 => if x8 < (x6.length : Int) then (if 0 ≤ x8 then ((abugidaref25_Decode.f k (rdOf ByteArray.empty x6 x8)).bind fun bt256 => (if bt256.2.2.2.2.2.2.2.2.2.2.2 = 0 then (if x7.length < 1172812402961 then (abugidaref35_Tell.l0 k x0 x6 (x7 ++ [(⟨bt256.1, bt256.2.1, (⟨bt256.2.2.1, bt256.2.2.2.1, bt256.2.2.2.2.1⟩ : S52), (⟨bt256.2.2.2.2.2.1, bt256.2.2.2.2.2.2.1, bt256.2.2.2.2.2.2.2.1⟩ : S52), bt256.2.2.2.2.2.2.2.2.1, bt256.2.2.2.2.2.2.2.2.2.1, bt256.2.2.2.2.2.2.2.2.2.2.1⟩ : S55)]) (wrap64 (x8 + 1))) else (none)) else (some (([] : List (S55)), false)))) else (none)) else ((abugidaref35_Told.f k x7).bind fun t274 => (if t274.toList = x0.toList then (some (x7, true)) else (some (([] : List (S55)), false))))
end
def abugidaref35_Tell.f (k : Nat) (a0 : ByteArray) : Option ((List (S55)) × Bool) := (abugidaref02_New.f a0).bind fun bt237 => ((abugidaref02_Reader_Text.f k bt237.1 bt237.2.1 bt237.2.2).bind fun bt241 => ((abugidaref02_Reader_Texts.f k bt241.2.1 bt241.2.2.1 bt241.2.2.2).bind fun bt245 => (if bt245.2.2.2 = true then (abugidaref35_Tell.j0 k a0 bt245.1 true) else ((abugidaref02_Reader_Left.f bt245.2.1 bt245.2.2.1 bt245.2.2.2).bind fun bt251 => (if bt251.1 > 0 then (abugidaref35_Tell.j0 k a0 bt245.1 true) else (abugidaref35_Tell.j0 k a0 bt245.1 (bt241.1.toList != ([116, 111, 108, 100] : List UInt8))))))))
set_option maxHeartbeats 8000000 in
set_option maxRecDepth 100000 in
theorem abugidaref35_Tell.calls (k : Nat) (a0 : ByteArray) (r1 : List (S55)) (r2 : Bool) (w : World) (h : abugidaref35_Tell.f k a0 = some (r1, r2)) :
 Calls Try.prog 26 #[.string a0] w fun e w' => ∃ v0_ : Value, e = .returned (.tuple #[v0_, .bool r2]) ∧ Kd.S k55 55 w' w.heap.size (fun _ => True) v0_ r1 ∧ Below w.heap.size w w' := by
 have hu55 := Try.underlying55
 have HB := Aside0.mk (Below.refl w.heap.size w)
 have H : ((abugidaref02_New.f a0).bind fun bt237 => ((abugidaref02_Reader_Text.f k bt237.1 bt237.2.1 bt237.2.2).bind fun bt241 => ((abugidaref02_Reader_Texts.f k bt241.2.1 bt241.2.2.1 bt241.2.2.2).bind fun bt245 => (if bt245.2.2.2 = true then (abugidaref35_Tell.j0 k a0 bt245.1 true) else ((abugidaref02_Reader_Left.f bt245.2.1 bt245.2.2.1 bt245.2.2.2).bind fun bt251 => (if bt251.1 > 0 then (abugidaref35_Tell.j0 k a0 bt245.1 true) else (abugidaref35_Tell.j0 k a0 bt245.1 (bt241.1.toList != ([116, 111, 108, 100] : List UInt8))))))))) = some (r1, r2) := h
 clear h
 replace H := Option.bind_eq_some_iff.mp H
 obtain ⟨⟨t237, t238, t239⟩, A20, H⟩ := H
 try dsimp only at H
 have A2 := Aside0.mk A20
 clear A20
 replace H := Option.bind_eq_some_iff.mp H
 obtain ⟨⟨t241, t242, t243, t244⟩, A30, H⟩ := H
 try dsimp only at H
 have A3 := Aside0.mk A30
 clear A30
 replace H := Option.bind_eq_some_iff.mp H
 obtain ⟨⟨t245, t248, t249, t250⟩, A40, H⟩ := H
 try dsimp only at H
 have A4 := Aside0.mk A40
 clear A40
 have HC5 := Aside0.mk H
 clear H
 go_enter Try.func26, Try.ntmps26
 go_upto_region 4 with (first | ((with_reducible refine gate_callee (f := 65) rfl ?_); refine goesL_ (some 12) rfl rfl Try.func65 (by kernel_rfl) rfl #[.string a0] rfl zaw3 ?_; (with_reducible refine (abugidaref02_New.calls a0 t237 t238 t239 w _ ?side1 A2.out).mono ?_); (case side1 => exact zaw0); rintro e w6 ⟨g240, rfl, hi, hb, hb2⟩; refine ⟨_, rfl, ?_⟩; have n0_ := Aside0.mk (hb); have n1_ := Aside0.mk (hi); clear HB; have HB := n0_; have HI240 := n1_; clear n0_ n1_; (try clear hb); (try clear hb2); (try clear hk); (try clear hi)) | ((with_reducible refine gate_callee (f := 66) rfl ?_); refine goesL_ (some 14) rfl rfl Try.func66 (by kernel_rfl) rfl #[.pointer (some ⟨g240, 0, none⟩)] rfl zaw3 ?_; (with_reducible refine (abugidaref02_Reader_Text.calls k g240 t237 t238 t239 t241 t242 t243 t244 w _ ?side1 ?side2 A3.out).mono ?_); (case side1 => exact zaw6); (case side2 => exact zaw1); rintro e w7 ⟨rfl, hi, hb, hk⟩; refine ⟨_, rfl, ?_⟩; have n0_ := Aside0.mk (hb); have n1_ := Aside0.mk (hi); clear HB; clear HI240; have HB := n0_; have HI240 := n1_; clear n0_ n1_; (try clear hb); (try clear hb2); (try clear hk); (try clear hi)) | ((with_reducible refine gate_callee (f := 68) rfl ?_); refine goesL_ (some 16) rfl rfl Try.func68 (by kernel_rfl) rfl #[.pointer (some ⟨g240, 0, none⟩)] rfl zaw3 ?_; (with_reducible refine (abugidaref02_Reader_Texts.calls k g240 t242 t243 t244 t245 t248 t249 t250 w _ ?side1 ?side2 A4.out).mono ?_); (case side1 => exact zaw6); (case side2 => exact zaw1); rintro e w8 ⟨v246, rfl, ho0, hi, hb, hk⟩; refine ⟨_, rfl, ?_⟩; have n0_ := Aside0.mk (Kd.R_lower ho0 (below_size zaw1)); have n1_ := Aside0.mk (hb); have n2_ := Aside0.mk (hi); clear HB; clear HI240; have HO247 := n0_; have HB := n1_; have HI240 := n2_; clear n0_ n1_ n2_; (try clear hb); (try clear hb2); (try clear hk); (try clear hi); (try clear ho0)))
 (try simp only [Act.put, List.setIfInBounds_toArray, List.set_cons_zero, List.set_cons_succ])
 go_cut [29] (fun v29 wc => ∃ (kq : Nat) (x29_4 : Bool), v29 = .bool x29_4 ∧ Aside0 (abugidaref35_Tell.j0 kq a0 t245 x29_4 = some (r1, r2)) ∧ Aside0 (kq ≤ k) ∧ Aside0 (Kd.R Kd.string 9 wc w.heap.size (fun _ => True) v246 t245) ∧ Aside0 (Below w.heap.size w wc))
 case first =>
  have H := HC5.out
  clear HC5
  by_cases c9 : t250 = true
  · subst c9
    rw [if_pos rfl] at H
    have H' := Aside0.mk H
    clear H
    obtain ⟨HGz10, hgz10⟩ := HI240.out
    have hcz10_0 := cellS111_0 HGz10
    have hcz10_1 := cellS111_1 HGz10
    have hcz10_2 := cellS111_2 HGz10
    have hfz10_0 := blk_frozen HGz10 0
    have hfz10_1 := blk_frozen HGz10 1
    have hfz10_2 := blk_frozen HGz10 2
    clear HGz10 hgz10
    go_wp2
    go_meet
    case rel => exact ⟨_, (true), zaw10, H', ⟨by first | omega | exact Nat.le_refl _⟩, ⟨zaw8⟩, ⟨zaw1⟩⟩
  · replace c9 := Bool.eq_false_iff.mpr c9
    subst c9
    rw [if_neg (show ¬ (false = true) by decide)] at H
    replace H := Option.bind_eq_some_iff.mp H
    obtain ⟨⟨t251, t252, t253, t254⟩, A110, H⟩ := H
    try dsimp only at H
    have A11 := Aside0.mk A110
    clear A110
    by_cases c12 : t251 > 0
    · rw [if_pos c12] at H
      have c12b0 : decide (0 < t251) = true := decide_eq_true c12
      clear c12
      (first | rw [c12b0] | (simp only [i64_w, i32_w]; rw [c12b0]) | skip)
      have H' := Aside0.mk H
      clear H
      obtain ⟨HGz13, hgz13⟩ := HI240.out
      have hcz13_0 := cellS111_0 HGz13
      have hcz13_1 := cellS111_1 HGz13
      have hcz13_2 := cellS111_2 HGz13
      have hfz13_0 := blk_frozen HGz13 0
      have hfz13_1 := blk_frozen HGz13 1
      have hfz13_2 := blk_frozen HGz13 2
      clear HGz13 hgz13
      go_wp2_with (first | (go_at_call 69; (with_reducible refine (abugidaref02_Reader_Left.calls g240 t248 t249 false t251 t252 t253 t254 w _ ?side1 ?side2 A11.out).mono ?_); (case side1 => exact zaw6); (case side2 => exact zaw1); rintro e w14 ⟨rfl, hi, hb, hk⟩; have n0_ := Aside0.mk (Kd.R_mono (Kd.R_keep (IsS111.apart (show IsS111 w _ g240 t248 t249 false from by repeat (first | (with_reducible first | exact HI240.out | apply IsS111.alloc | apply IsS111.drewN | apply IsS111.drew | apply IsS111.set_0 | apply IsS111.set_1 | apply IsS111.set_2) | exact HI240.out)) zaw8 (by decide)) hk (fun _ h => h.2)) (fun _ h => h.1)); have n1_ := Aside0.mk (hb); have n2_ := Aside0.mk (hi); clear HO247; clear HB; clear HI240; have HO247 := n0_; have HB := n1_; have HI240 := n2_; clear n0_ n1_ n2_; (try clear hb); (try clear hb2); (try clear hk); (try clear hi)))
      go_meet
      case rel => exact ⟨_, (true), zaw10, H', ⟨by first | omega | exact Nat.le_refl _⟩, ⟨zaw8⟩, ⟨zaw1⟩⟩
    · rw [if_neg c12] at H
      have c12b0 : decide (0 < t251) = false := decide_eq_false c12
      clear c12
      (first | rw [c12b0] | (simp only [i64_w, i32_w]; rw [c12b0]) | skip)
      have H' := Aside0.mk H
      clear H
      obtain ⟨HGz15, hgz15⟩ := HI240.out
      have hcz15_0 := cellS111_0 HGz15
      have hcz15_1 := cellS111_1 HGz15
      have hcz15_2 := cellS111_2 HGz15
      have hfz15_0 := blk_frozen HGz15 0
      have hfz15_1 := blk_frozen HGz15 1
      have hfz15_2 := blk_frozen HGz15 2
      clear HGz15 hgz15
      go_wp2_with (first | (go_at_call 69; (with_reducible refine (abugidaref02_Reader_Left.calls g240 t248 t249 false t251 t252 t253 t254 w _ ?side1 ?side2 A11.out).mono ?_); (case side1 => exact zaw6); (case side2 => exact zaw1); rintro e w16 ⟨rfl, hi, hb, hk⟩; have n0_ := Aside0.mk (Kd.R_mono (Kd.R_keep (IsS111.apart (show IsS111 w _ g240 t248 t249 false from by repeat (first | (with_reducible first | exact HI240.out | apply IsS111.alloc | apply IsS111.drewN | apply IsS111.drew | apply IsS111.set_0 | apply IsS111.set_1 | apply IsS111.set_2) | exact HI240.out)) zaw8 (by decide)) hk (fun _ h => h.2)) (fun _ h => h.1)); have n1_ := Aside0.mk (hb); have n2_ := Aside0.mk (hi); clear HO247; clear HB; clear HI240; have HO247 := n0_; have HB := n1_; have HI240 := n2_; clear n0_ n1_ n2_; (try clear hb); (try clear hb2); (try clear hk); (try clear hi)))
      go_meet
      case rel => exact ⟨_, ((t241.toList != ([116, 111, 108, 100] : List UInt8))), zaw10, H', ⟨by first | omega | exact Nat.le_refl _⟩, ⟨zaw8⟩, ⟨zaw1⟩⟩
 case rest =>
  clear HC5
  try clear c1
  try clear c2
  try clear p2
  try clear c6
  try clear c9
  try clear c12
  try clear c12b0
  try clear hcz10_0
  try clear hcz10_1
  try clear hcz10_2
  try clear hcz13_0
  try clear hcz13_1
  try clear hcz13_2
  try clear hcz15_0
  try clear hcz15_1
  try clear hcz15_2
  try clear hfz10_0
  try clear hfz10_1
  try clear hfz10_2
  try clear hfz13_0
  try clear hfz13_1
  try clear hfz13_2
  try clear hfz15_0
  try clear hfz15_1
  try clear hfz15_2
  obtain ⟨kq, x29_4, rfl, HA, HJ4, HO_6, HB⟩ := hcut
  cases kq with
  | zero => exact absurd HA.out (by simp [abugidaref35_Tell.j0])
  | succ kj4 =>
    have H := HA.out
    clear HA
    simp only [abugidaref35_Tell.j0] at H
    by_cases c17 : x29_4 = true
    · subst c17
      rw [if_pos rfl] at H
      simp only [Option.some.injEq, Prod.mk.injEq] at H
      obtain ⟨rfl, rfl⟩ := H
      go_wp2
      go_ret2
      exact ⟨_, zaw9, zaw7, zaw0⟩
    · replace c17 := Bool.eq_false_iff.mpr c17
      subst c17
      rw [if_neg (show ¬ (false = true) by decide)] at H
      have H' := Aside0.mk H
      clear H
      go_wp2
      go_loopg [7, 8] kj4 (fun kq v7 v8 w' => ∃ (x7_2 : List (S55)) (x8_2 : Int), v8 = .int .i64 x8_2 ∧ Aside0 (abugidaref35_Tell.l0 kq a0 t245 x7_2 x8_2 = some (r1, r2)) ∧ Aside0 (kq ≤ kj4) ∧ Aside0 (Kd.R Kd.string 9 w' w.heap.size (fun _ => True) v246 t245) ∧ Aside0 (Kd.S k55 55 w' w.heap.size (fun k_ => some k_ ≠ (v246 : Value).ownBlock) v7 x7_2) ∧ Aside0 (Below w.heap.size w w'))
      case atStart => exact ⟨(([] : List (S55))), (0), zaw10, H', ⟨Nat.le_refl _⟩, ⟨zaw2⟩, ⟨zaw7⟩, ⟨zaw0⟩⟩
      case round =>
       clear H'
       try clear c1
       try clear c2
       try clear p2
       try clear c6
       try clear c9
       try clear c12
       try clear c12b0
       try clear c17
       try clear hcz10_0
       try clear hcz10_1
       try clear hcz10_2
       try clear hcz13_0
       try clear hcz13_1
       try clear hcz13_2
       try clear hcz15_0
       try clear hcz15_1
       try clear hcz15_2
       try clear hfz10_0
       try clear hfz10_1
       try clear hfz10_2
       try clear hfz13_0
       try clear hfz13_1
       try clear hfz13_2
       try clear hfz15_0
       try clear hfz15_1
       try clear hfz15_2
       try clear p2
       obtain ⟨x7_2, x8_2, rfl, HA, HK2, HO_6, HO_7, HB⟩ := hrel
       cases gk with
       | zero => exact absurd HA.out (by simp [abugidaref35_Tell.l0])
       | succ k2 =>
         have H := HA.out
         clear HA
         simp only [abugidaref35_Tell.l0] at H
         by_cases c18 : x8_2 < (t245.length : Int)
         · rw [if_pos c18] at H
           have c18b0 : decide (x8_2 < (t245.length : Int)) = true := decide_eq_true c18
           clear c18
           by_cases c19 : 0 ≤ x8_2
           · rw [if_pos c19] at H
             have c19b0 : decide (0 ≤ x8_2) = true := decide_eq_true c19
             clear c19
             replace H := Option.bind_eq_some_iff.mp H
             obtain ⟨⟨t256, t257, t258, t259, t260, t261, t262, t263, t264, t265, t266, t269⟩, A200, H⟩ := H
             try dsimp only at H
             have A20 := Aside0.mk A200
             clear A200
             by_cases c21 : t269 = 0
             · rw [if_pos c21] at H
               have c21b0 : (t269 == 0) = true := beq_iff_eq.mpr c21
               have c21b1 : (t269 != 0) = false := bne_eq_false_iff_eq.mpr c21
               clear c21
               by_cases c22 : x7_2.length < 1172812402961
               · rw [if_pos c22] at H
                 have LMc22 := Aside0.mk c22
                 clear c22
                 obtain ⟨y271, hy271⟩ : ∃ y_ : List (S55), y_ = (x7_2 ++ [(⟨t256, t257, (⟨t258, t259, t260⟩ : S52), (⟨t261, t262, t263⟩ : S52), t264, t265, t266⟩ : S55)]) := ⟨_, rfl⟩
                 replace H : (abugidaref35_Tell.l0 k2 a0 t245 y271 (wrap64 (x8_2 + 1))) = some (r1, r2) := by first | (rw [hy271]; with_reducible exact H) | (have H2_ := (Option.bind_some _ _).symm.trans H; rw [hy271]; with_reducible exact H2_) | (have H2_ := (Option.bind_some _ _).symm.trans H; with_reducible exact H2_) | with_reducible exact H | (rw [hy271]; exact H) | exact H
                 have Ny271 := Aside0.mk hy271
                 clear hy271
                 have H' := Aside0.mk H
                 clear H
                 obtain ⟨Ao23, co23, eo23⟩ := Kd.R_slice HO_6.out
                 subst eo23
                 have p255 : 0 ≤ (x8_2 : Int) := of_decide_eq_true zaw12
                 have q255 : x8_2 < (t245.length : Int) := of_decide_eq_true zaw12
                 obtain ⟨ad255, e255, hx255_0⟩ := Kd.at_string (Kd.R_reads' HO_6.out).2.2 x8_2 p255 q255
                 cases e255
                 replace p255 := eq_true p255
                 replace q255 := eq_true q255
                 go_wp2_with (first | ((with_reducible refine gate_callee (f := 70) rfl ?_); refine goesL_ (some 41) rfl rfl Try.func70 (by kernel_rfl) rfl #[.string (rdOf ByteArray.empty t245 x8_2)] rfl zaw3 ?_; (with_reducible refine (abugidaref25_Decode.calls k2 (rdOf ByteArray.empty t245 x8_2) t256 t257 t258 t259 t260 t261 t262 t263 t264 t265 t266 t269 _ A20.out).mono ?_); rintro e w24 ⟨v267, rfl, ho0, hb⟩; refine ⟨_, rfl, ?_⟩; have n0_ := Aside0.mk (Kd.R_elder' zaw2 (Kd.R_base ho0) hb); have n1_ := Aside0.mk (Kd.S_elder' zaw5 (Kd.R_base ho0) hb); have n2_ := Aside0.mk (Kd.R_lower (Kd.R_new' ho0 (Kd.R_lt zaw2)) (below_size zaw0)); have n3_ := Aside0.mk (below_step zaw0 hb); clear HO_6; clear HO_7; clear HB; have HO_6 := n0_; have HO_7 := n1_; have HO268 := n2_; have HB := n3_; clear n0_ n1_ n2_ n3_; (try clear hb); (try clear hb2); (try clear hk); (try clear hi); (try clear ho0)) | ((with_reducible refine gate_dst (N := 9) rfl ?_); refine box_event ?hg (N := 9) ?hd (cs := #[.string (⟨#[]⟩ : ByteArray), .int .i64 0, .int .i64 0, .int .i64 0, .int .i64 0, .int .i64 0, .int .i64 0, .int .i64 0, .string (⟨#[]⟩ : ByteArray), .int .i64 0, .slice none 0 0]) (t := 55) ?hr ?_; (case hd => rfl); (case hg => rfl); (case hr => first | (go_simp; done) | (go_simp; rfl)); intro gb270 hg w25 hbox hb; have n0_ := Aside0.mk (Kd.R_below zaw2 hb); have n1_ := Aside0.mk (Kd.S_below (Kd.S_elderB zaw5 gb270 (Nat.le_of_eq hg.symm)) hb); have n2_ := Aside0.mk (Kd.R_below zaw14 hb); have n3_ := Aside0.mk (below_step zaw0 hb); have n4_ := Aside0.mk (hbox); have n5_ := Aside0.mk ((by rw [hg]; exact (below_size zaw0) : w.heap.size ≤ gb270)); have n6_ := Aside0.mk ((by rw [hg]; exact (below_size zaw0) : w.heap.size ≤ gb270)); clear HO_6; clear HO_7; clear HO268; clear HB; have HO_6 := n0_; have HO_7 := n1_; have HO268 := n2_; have HB := n3_; have BK270 := n4_; have GW270 := n5_; have GE270 := n6_; clear n0_ n1_ n2_ n3_ n4_ n5_ n6_; clear hb hbox hg; have hcz26_0 : w25.cell? ⟨gb270, 0, none⟩ = some (.string (⟨#[]⟩ : ByteArray)) := (blk_cell BK270.out 0).trans rfl; have hcz26_1 : w25.cell? ⟨gb270, 1, none⟩ = some (.int .i64 0) := (blk_cell BK270.out 1).trans rfl; have hcz26_2 : w25.cell? ⟨gb270, 2, none⟩ = some (.int .i64 0) := (blk_cell BK270.out 2).trans rfl; have hcz26_3 : w25.cell? ⟨gb270, 3, none⟩ = some (.int .i64 0) := (blk_cell BK270.out 3).trans rfl; have hcz26_4 : w25.cell? ⟨gb270, 4, none⟩ = some (.int .i64 0) := (blk_cell BK270.out 4).trans rfl; have hcz26_5 : w25.cell? ⟨gb270, 5, none⟩ = some (.int .i64 0) := (blk_cell BK270.out 5).trans rfl; have hcz26_6 : w25.cell? ⟨gb270, 6, none⟩ = some (.int .i64 0) := (blk_cell BK270.out 6).trans rfl; have hcz26_7 : w25.cell? ⟨gb270, 7, none⟩ = some (.int .i64 0) := (blk_cell BK270.out 7).trans rfl; have hcz26_8 : w25.cell? ⟨gb270, 8, none⟩ = some (.string (⟨#[]⟩ : ByteArray)) := (blk_cell BK270.out 8).trans rfl; have hcz26_9 : w25.cell? ⟨gb270, 9, none⟩ = some (.int .i64 0) := (blk_cell BK270.out 9).trans rfl; have hcz26_10 : w25.cell? ⟨gb270, 10, none⟩ = some (.slice none 0 0) := (blk_cell BK270.out 10).trans rfl; have hfz26_0 := blk_frozen BK270.out 0; have hfz26_1 := blk_frozen BK270.out 1; have hfz26_2 := blk_frozen BK270.out 2; have hfz26_3 := blk_frozen BK270.out 3; have hfz26_4 := blk_frozen BK270.out 4; have hfz26_5 := blk_frozen BK270.out 5; have hfz26_6 := blk_frozen BK270.out 6; have hfz26_7 := blk_frozen BK270.out 7; have hfz26_8 := blk_frozen BK270.out 8; have hfz26_9 := blk_frozen BK270.out 9; have hfz26_10 := blk_frozen BK270.out 10; obtain ⟨Ao27, co27, eo27⟩ := Kd.R_slice HO268.out; subst eo27) | ((with_reducible refine gate_store (t := 55) (p := 9) rfl ?_); refine store_event (t := 55) (p := 9) (v := ?vo_w28) (w1 := (((((((((((w25.setCell ⟨gb270, 0, none⟩ (.string t256)).setCell ⟨gb270, 1, none⟩ (.int .i64 t257)).setCell ⟨gb270, 2, none⟩ (.int .i64 t258)).setCell ⟨gb270, 3, none⟩ (.int .i64 t259)).setCell ⟨gb270, 4, none⟩ (.int .i64 t260)).setCell ⟨gb270, 5, none⟩ (.int .i64 t261)).setCell ⟨gb270, 6, none⟩ (.int .i64 t262)).setCell ⟨gb270, 7, none⟩ (.int .i64 t263)).setCell ⟨gb270, 8, none⟩ (.string t264)).setCell ⟨gb270, 9, none⟩ (.int .i64 t265)).setCell ⟨gb270, 10, none⟩ (.slice Ao27 t266.length co27))) ?hg ?ho ?hn ?hr ?_; (case ho => rfl); (case hg => rfl); (case hn => rfl); (case hr => first | (go_simp; done) | (go_simp; rfl)); intro w28 hw; have n0_ : Aside0 (Kd.R Kd.string 9 w28 w.heap.size (fun k_ => some k_ ≠ (.slice Ao27 t266.length co27 : Value).ownBlock) (.slice (some ad255) t245.length co23) t245) := ⟨(by rw [hw]; exact (by (with_reducible repeat (first | apply Kd.R_alloc | apply Kd.R_drewN | apply Kd.R_drew)); exact Kd.R_mono (Kd.R_far (p := ⟨gb270, 10, none⟩) (Kd.R_far (p := ⟨gb270, 9, none⟩) (Kd.R_far (p := ⟨gb270, 8, none⟩) (Kd.R_far (p := ⟨gb270, 7, none⟩) (Kd.R_far (p := ⟨gb270, 6, none⟩) (Kd.R_far (p := ⟨gb270, 5, none⟩) (Kd.R_far (p := ⟨gb270, 4, none⟩) (Kd.R_far (p := ⟨gb270, 3, none⟩) (Kd.R_far (p := ⟨gb270, 2, none⟩) (Kd.R_far (p := ⟨gb270, 1, none⟩) (Kd.R_far (p := ⟨gb270, 0, none⟩) (Kd.R_types HO_6.out BK270.out (by decide)) (fun _ hk => hk.2) (.string t256)) (fun _ hk => hk.2) (.int .i64 t257)) (fun _ hk => hk.2) (.int .i64 t258)) (fun _ hk => hk.2) (.int .i64 t259)) (fun _ hk => hk.2) (.int .i64 t260)) (fun _ hk => hk.2) (.int .i64 t261)) (fun _ hk => hk.2) (.int .i64 t262)) (fun _ hk => hk.2) (.int .i64 t263)) (fun _ hk => hk.2) (.string t264)) (fun _ hk => hk.2) (.int .i64 t265)) (fun _ hk => hk.2) (.slice Ao27 t266.length co27)) (fun _ hk => hk.1.2)))⟩; have n1_ : Aside0 (Kd.S k55 55 w28 w.heap.size (fun k_ => some k_ ≠ (.slice (some ad255) t245.length co23 : Value).ownBlock ∧ some k_ ≠ (.slice Ao27 t266.length co27 : Value).ownBlock ∧ k_ ≠ gb270) u7 x7_2) := ⟨(by rw [hw]; exact (by (with_reducible repeat (first | apply Kd.S_alloc | apply Kd.S_drewN | apply Kd.S_drew)); exact Kd.S_mono (Kd.S_far (p := ⟨gb270, 10, none⟩) (Kd.S_far (p := ⟨gb270, 9, none⟩) (Kd.S_far (p := ⟨gb270, 8, none⟩) (Kd.S_far (p := ⟨gb270, 7, none⟩) (Kd.S_far (p := ⟨gb270, 6, none⟩) (Kd.S_far (p := ⟨gb270, 5, none⟩) (Kd.S_far (p := ⟨gb270, 4, none⟩) (Kd.S_far (p := ⟨gb270, 3, none⟩) (Kd.S_far (p := ⟨gb270, 2, none⟩) (Kd.S_far (p := ⟨gb270, 1, none⟩) (Kd.S_far (p := ⟨gb270, 0, none⟩) (Kd.S_mono HO_7.out (fun k_ hk => (⟨hk, hk.2⟩ : _ ∧ k_ ≠ gb270))) (fun _ hk => hk.2) (.string t256)) (fun _ hk => hk.2) (.int .i64 t257)) (fun _ hk => hk.2) (.int .i64 t258)) (fun _ hk => hk.2) (.int .i64 t259)) (fun _ hk => hk.2) (.int .i64 t260)) (fun _ hk => hk.2) (.int .i64 t261)) (fun _ hk => hk.2) (.int .i64 t262)) (fun _ hk => hk.2) (.int .i64 t263)) (fun _ hk => hk.2) (.string t264)) (fun _ hk => hk.2) (.int .i64 t265)) (fun _ hk => hk.2) (.slice Ao27 t266.length co27)) (fun _ hk => ⟨hk.1.1.1, ⟨hk.1.1.2, hk.1.2⟩⟩)))⟩; have n2_ : Aside0 (Kd.R Kd.string 9 w28 w.heap.size (fun k_ => some k_ ≠ (.slice (some ad255) t245.length co23 : Value).ownBlock) (.slice Ao27 t266.length co27) t266) := ⟨(by rw [hw]; exact (by (with_reducible repeat (first | apply Kd.R_alloc | apply Kd.R_drewN | apply Kd.R_drew)); exact Kd.R_mono (Kd.R_far (p := ⟨gb270, 10, none⟩) (Kd.R_far (p := ⟨gb270, 9, none⟩) (Kd.R_far (p := ⟨gb270, 8, none⟩) (Kd.R_far (p := ⟨gb270, 7, none⟩) (Kd.R_far (p := ⟨gb270, 6, none⟩) (Kd.R_far (p := ⟨gb270, 5, none⟩) (Kd.R_far (p := ⟨gb270, 4, none⟩) (Kd.R_far (p := ⟨gb270, 3, none⟩) (Kd.R_far (p := ⟨gb270, 2, none⟩) (Kd.R_far (p := ⟨gb270, 1, none⟩) (Kd.R_far (p := ⟨gb270, 0, none⟩) (Kd.R_types HO268.out BK270.out (by decide)) (fun _ hk => hk.2) (.string t256)) (fun _ hk => hk.2) (.int .i64 t257)) (fun _ hk => hk.2) (.int .i64 t258)) (fun _ hk => hk.2) (.int .i64 t259)) (fun _ hk => hk.2) (.int .i64 t260)) (fun _ hk => hk.2) (.int .i64 t261)) (fun _ hk => hk.2) (.int .i64 t262)) (fun _ hk => hk.2) (.int .i64 t263)) (fun _ hk => hk.2) (.string t264)) (fun _ hk => hk.2) (.int .i64 t265)) (fun _ hk => hk.2) (.slice Ao27 t266.length co27)) (fun _ hk => hk.1.2)))⟩; have n3_ : Aside0 (w28.heap[gb270]? = some (.cells #[.string t256, .int .i64 t257, .int .i64 t258, .int .i64 t259, .int .i64 t260, .int .i64 t261, .int .i64 t262, .int .i64 t263, .string t264, .int .i64 t265, .slice Ao27 t266.length co27] 55 (0, 0))) := ⟨(by rw [hw]; exact (by (with_reducible repeat (first | refine blk_drewN ?_ _ | refine blk_drew ?_ | refine blk_alloc ?_ _)); refine blk_put (cs := #[.string t256, .int .i64 t257, .int .i64 t258, .int .i64 t259, .int .i64 t260, .int .i64 t261, .int .i64 t262, .int .i64 t263, .string t264, .int .i64 t265, .slice none 0 0]) ?_ 10 _ rfl; (with_reducible repeat (first | refine blk_drewN ?_ _ | refine blk_drew ?_ | refine blk_alloc ?_ _)); refine blk_put (cs := #[.string t256, .int .i64 t257, .int .i64 t258, .int .i64 t259, .int .i64 t260, .int .i64 t261, .int .i64 t262, .int .i64 t263, .string t264, .int .i64 0, .slice none 0 0]) ?_ 9 _ rfl; (with_reducible repeat (first | refine blk_drewN ?_ _ | refine blk_drew ?_ | refine blk_alloc ?_ _)); refine blk_put (cs := #[.string t256, .int .i64 t257, .int .i64 t258, .int .i64 t259, .int .i64 t260, .int .i64 t261, .int .i64 t262, .int .i64 t263, .string (⟨#[]⟩ : ByteArray), .int .i64 0, .slice none 0 0]) ?_ 8 _ rfl; (with_reducible repeat (first | refine blk_drewN ?_ _ | refine blk_drew ?_ | refine blk_alloc ?_ _)); refine blk_put (cs := #[.string t256, .int .i64 t257, .int .i64 t258, .int .i64 t259, .int .i64 t260, .int .i64 t261, .int .i64 t262, .int .i64 0, .string (⟨#[]⟩ : ByteArray), .int .i64 0, .slice none 0 0]) ?_ 7 _ rfl; (with_reducible repeat (first | refine blk_drewN ?_ _ | refine blk_drew ?_ | refine blk_alloc ?_ _)); refine blk_put (cs := #[.string t256, .int .i64 t257, .int .i64 t258, .int .i64 t259, .int .i64 t260, .int .i64 t261, .int .i64 0, .int .i64 0, .string (⟨#[]⟩ : ByteArray), .int .i64 0, .slice none 0 0]) ?_ 6 _ rfl; (with_reducible repeat (first | refine blk_drewN ?_ _ | refine blk_drew ?_ | refine blk_alloc ?_ _)); refine blk_put (cs := #[.string t256, .int .i64 t257, .int .i64 t258, .int .i64 t259, .int .i64 t260, .int .i64 0, .int .i64 0, .int .i64 0, .string (⟨#[]⟩ : ByteArray), .int .i64 0, .slice none 0 0]) ?_ 5 _ rfl; (with_reducible repeat (first | refine blk_drewN ?_ _ | refine blk_drew ?_ | refine blk_alloc ?_ _)); refine blk_put (cs := #[.string t256, .int .i64 t257, .int .i64 t258, .int .i64 t259, .int .i64 0, .int .i64 0, .int .i64 0, .int .i64 0, .string (⟨#[]⟩ : ByteArray), .int .i64 0, .slice none 0 0]) ?_ 4 _ rfl; (with_reducible repeat (first | refine blk_drewN ?_ _ | refine blk_drew ?_ | refine blk_alloc ?_ _)); refine blk_put (cs := #[.string t256, .int .i64 t257, .int .i64 t258, .int .i64 0, .int .i64 0, .int .i64 0, .int .i64 0, .int .i64 0, .string (⟨#[]⟩ : ByteArray), .int .i64 0, .slice none 0 0]) ?_ 3 _ rfl; (with_reducible repeat (first | refine blk_drewN ?_ _ | refine blk_drew ?_ | refine blk_alloc ?_ _)); refine blk_put (cs := #[.string t256, .int .i64 t257, .int .i64 0, .int .i64 0, .int .i64 0, .int .i64 0, .int .i64 0, .int .i64 0, .string (⟨#[]⟩ : ByteArray), .int .i64 0, .slice none 0 0]) ?_ 2 _ rfl; (with_reducible repeat (first | refine blk_drewN ?_ _ | refine blk_drew ?_ | refine blk_alloc ?_ _)); refine blk_put (cs := #[.string t256, .int .i64 0, .int .i64 0, .int .i64 0, .int .i64 0, .int .i64 0, .int .i64 0, .int .i64 0, .string (⟨#[]⟩ : ByteArray), .int .i64 0, .slice none 0 0]) ?_ 1 _ rfl; (with_reducible repeat (first | refine blk_drewN ?_ _ | refine blk_drew ?_ | refine blk_alloc ?_ _)); refine blk_put (cs := #[.string (⟨#[]⟩ : ByteArray), .int .i64 0, .int .i64 0, .int .i64 0, .int .i64 0, .int .i64 0, .int .i64 0, .int .i64 0, .string (⟨#[]⟩ : ByteArray), .int .i64 0, .slice none 0 0]) ?_ 0 _ rfl; (with_reducible repeat (first | refine blk_drewN ?_ _ | refine blk_drew ?_ | refine blk_alloc ?_ _)); exact BK270.out))⟩; have n4_ : Aside0 (Below w.heap.size w w28) := ⟨(by rw [hw]; exact zaw4)⟩; clear hw; clear HO_6; clear HO_7; clear HO268; clear BK270; clear HB; have HO_6 := n0_; have HO_7 := n1_; have HO268 := n2_; have BK270 := n3_; have HB := n4_; clear n0_ n1_ n2_ n3_ n4_; have hcz29_0 : w28.cell? ⟨gb270, 0, none⟩ = some (.string t256) := (blk_cell BK270.out 0).trans rfl; have hcz29_1 : w28.cell? ⟨gb270, 1, none⟩ = some (.int .i64 t257) := (blk_cell BK270.out 1).trans rfl; have hcz29_2 : w28.cell? ⟨gb270, 2, none⟩ = some (.int .i64 t258) := (blk_cell BK270.out 2).trans rfl; have hcz29_3 : w28.cell? ⟨gb270, 3, none⟩ = some (.int .i64 t259) := (blk_cell BK270.out 3).trans rfl; have hcz29_4 : w28.cell? ⟨gb270, 4, none⟩ = some (.int .i64 t260) := (blk_cell BK270.out 4).trans rfl; have hcz29_5 : w28.cell? ⟨gb270, 5, none⟩ = some (.int .i64 t261) := (blk_cell BK270.out 5).trans rfl; have hcz29_6 : w28.cell? ⟨gb270, 6, none⟩ = some (.int .i64 t262) := (blk_cell BK270.out 6).trans rfl; have hcz29_7 : w28.cell? ⟨gb270, 7, none⟩ = some (.int .i64 t263) := (blk_cell BK270.out 7).trans rfl; have hcz29_8 : w28.cell? ⟨gb270, 8, none⟩ = some (.string t264) := (blk_cell BK270.out 8).trans rfl; have hcz29_9 : w28.cell? ⟨gb270, 9, none⟩ = some (.int .i64 t265) := (blk_cell BK270.out 9).trans rfl; have hcz29_10 : w28.cell? ⟨gb270, 10, none⟩ = some (.slice Ao27 t266.length co27) := (blk_cell BK270.out 10).trans rfl; have hfz29_0 := blk_frozen BK270.out 0; have hfz29_1 := blk_frozen BK270.out 1; have hfz29_2 := blk_frozen BK270.out 2; have hfz29_3 := blk_frozen BK270.out 3; have hfz29_4 := blk_frozen BK270.out 4; have hfz29_5 := blk_frozen BK270.out 5; have hfz29_6 := blk_frozen BK270.out 6; have hfz29_7 := blk_frozen BK270.out 7; have hfz29_8 := blk_frozen BK270.out 8; have hfz29_9 := blk_frozen BK270.out 9; have hfz29_10 := blk_frozen BK270.out 10) | ((with_reducible refine gate_builtin (b := .append) (xs := #[.tmp 46, .tmp 48]) rfl ?_); at_builtin; refine Kd.S_append k55 (w0 := w) w.heap.size rfl (.tmp 46) (.tmp 48) 42 55 (.agg #[(.string ⟨#[]⟩), (.int .i64 0), (.int .i64 0), (.int .i64 0), (.int .i64 0), (.int .i64 0), (.int .i64 0), (.int .i64 0), (.string ⟨#[]⟩), (.int .i64 0), (.slice none 0 0)]) 120 rfl Try.underlying42 info55 rfl (by decide) (by omega) u7 x7_2 (⟨t256, t257, (⟨t258, t259, t260⟩ : S52), (⟨t261, t262, t263⟩ : S52), t264, t265, t266⟩ : S55) [.string t256, .int .i64 t257, .int .i64 t258, .int .i64 t259, .int .i64 t260, .int .i64 t261, .int .i64 t262, .int .i64 t263, .string t264, .int .i64 t265, .slice Ao27 t266.length co27] (fun k_ => some k_ ≠ (.slice (some ad255) t245.length co23 : Value).ownBlock ∧ k_ ≠ gb270) (fun k_ => some k_ = (.slice Ao27 t266.length co27 : Value).ownBlock) rfl rfl ?aP (fun k_ hk_ => ((Kd.R_mono (ok' := fun k_ => ((fun k_ => some k_ ≠ (.slice (some ad255) t245.length co23 : Value).ownBlock ∧ k_ ≠ gb270)) k_ ∧ some k_ ≠ (u7 : Value).ownBlock) (Kd.R_types (Kd.R_apart' (HO268.out) (Kd.S_typed HO_7.out) (by decide)) BK270.out (by decide)) (fun k_ hk => ⟨⟨hk.1.1, hk.2⟩, hk.1.2⟩))).1 k_ hk_.symm) ?aF ?aO ?aB ?aS ?aL ?_; (case aP => exact k55_mkM _ _ _ (⟨t256, t257, (⟨t258, t259, t260⟩ : S52), (⟨t261, t262, t263⟩ : S52), t264, t265, t266⟩ : S55) (Kd.R_mono (Kd.R_tight rfl (Kd.R_mono (ok' := fun k_ => ((fun k_ => some k_ ≠ (.slice (some ad255) t245.length co23 : Value).ownBlock ∧ k_ ≠ gb270)) k_ ∧ some k_ ≠ (u7 : Value).ownBlock) (Kd.R_types (Kd.R_apart' (HO268.out) (Kd.S_typed HO_7.out) (by decide)) BK270.out (by decide)) (fun k_ hk => ⟨⟨hk.1.1, hk.2⟩, hk.1.2⟩))) (fun _ h_ => h_))); (case aB => exact zaw4); (case aF => exact (fun k_ hk => ⟨Kd.fresh' (Kd.R_lt zaw2) k_ hk, Kd.freshB (g := gb270) (o := .cells #[.string t256, .int .i64 t257, .int .i64 t258, .int .i64 t259, .int .i64 t260, .int .i64 t261, .int .i64 t262, .int .i64 t263, .string t264, .int .i64 t265, .slice Ao27 t266.length co27] 55 (0, 0)) zaw13 k_ hk⟩)); (case aO => exact (by (with_reducible repeat (first | apply Kd.S_alloc | apply Kd.S_drewN | apply Kd.S_drew)); exact Kd.S_mono HO_7.out (fun k_ hk => ⟨⟨hk.1, hk.2.2⟩, fun e_ => hk.2.1 e_⟩))); (case aS => exact (below_size zaw4)); (case aL => have := LMc22.out; omega); intro v272 w30 ho hb hg hat; rw [← Ny271.out] at ho; have n0_ := Aside0.mk (Kd.R_over' zaw2 (Kd.S_typed zaw5) (by decide) hg); have n1_ := Aside0.mk (blk_grown (g := gb270) (o := .cells #[.string t256, .int .i64 t257, .int .i64 t258, .int .i64 t259, .int .i64 t260, .int .i64 t261, .int .i64 t262, .int .i64 t263, .string t264, .int .i64 t265, .slice Ao27 t266.length co27] 55 (0, 0)) zaw13 hg (Kd.S_away HO_7.out (fun _ hk => hk.2.2))); have n2_ := Aside0.mk (hb); have n3_ := Aside0.mk (ho); clear HO_6; clear BK270; clear HB; clear HO_7; clear HO268; have HO_6 := n0_; have BK270 := n1_; have HB := n2_; have HO273 := n3_; clear n0_ n1_ n2_ n3_; clear ho hb hg hat))
                 go_roundg k2
                 case measure => have := HJ4.out; have := HK2.out; omega
                 case rel => exact ⟨(y271), (wrap64 (x8_2 + 1)), zaw10, H', ⟨by have := HJ4.out; have := HK2.out; omega⟩, ⟨by (with_reducible repeat (first | apply Kd.R_alloc | apply Kd.R_drewN | apply Kd.R_drew)); exact Kd.R_mono HO_6.out (fun _ hk => trivial)⟩, ⟨by (with_reducible repeat (first | apply Kd.S_alloc | apply Kd.S_drewN | apply Kd.S_drew)); exact Kd.S_mono HO273.out (fun _ hk => hk.1)⟩, ⟨zaw4⟩⟩
               · rw [if_neg c22] at H
                 exact absurd H (by simp)
             · rw [if_neg c21] at H
               have c21b0 : (t269 == 0) = false := beq_eq_false_iff_ne.mpr c21
               have c21b1 : (t269 != 0) = true := bne_iff_ne.mpr c21
               simp only [Option.some.injEq, Prod.mk.injEq] at H
               obtain ⟨rfl, rfl⟩ := H
               obtain ⟨Ao31, co31, eo31⟩ := Kd.R_slice HO_6.out
               subst eo31
               have p255 : 0 ≤ (x8_2 : Int) := of_decide_eq_true zaw12
               have q255 : x8_2 < (t245.length : Int) := of_decide_eq_true zaw12
               obtain ⟨ad255, e255, hx255_0⟩ := Kd.at_string (Kd.R_reads' HO_6.out).2.2 x8_2 p255 q255
               cases e255
               replace p255 := eq_true p255
               replace q255 := eq_true q255
               go_wp2_with (first | ((with_reducible refine gate_callee (f := 70) rfl ?_); refine goesL_ (some 41) rfl rfl Try.func70 (by kernel_rfl) rfl #[.string (rdOf ByteArray.empty t245 x8_2)] rfl zaw3 ?_; (with_reducible refine (abugidaref25_Decode.calls k2 (rdOf ByteArray.empty t245 x8_2) t256 t257 t258 t259 t260 t261 t262 t263 t264 t265 t266 t269 _ A20.out).mono ?_); rintro e w32 ⟨v267, rfl, ho0, hb⟩; refine ⟨_, rfl, ?_⟩; have n0_ := Aside0.mk (Kd.R_elder' zaw2 (Kd.R_base ho0) hb); have n1_ := Aside0.mk (Kd.S_elder' zaw5 (Kd.R_base ho0) hb); have n2_ := Aside0.mk (Kd.R_lower (Kd.R_new' ho0 (Kd.R_lt zaw2)) (below_size zaw0)); have n3_ := Aside0.mk (below_step zaw0 hb); clear HO_6; clear HO_7; clear HB; have HO_6 := n0_; have HO_7 := n1_; have HO268 := n2_; have HB := n3_; clear n0_ n1_ n2_ n3_; (try clear hb); (try clear hb2); (try clear hk); (try clear hi); (try clear ho0)) | ((with_reducible refine gate_dst (N := 9) rfl ?_); refine box_event ?hg (N := 9) ?hd (cs := #[.string (⟨#[]⟩ : ByteArray), .int .i64 0, .int .i64 0, .int .i64 0, .int .i64 0, .int .i64 0, .int .i64 0, .int .i64 0, .string (⟨#[]⟩ : ByteArray), .int .i64 0, .slice none 0 0]) (t := 55) ?hr ?_; (case hd => rfl); (case hg => rfl); (case hr => first | (go_simp; done) | (go_simp; rfl)); intro gb270 hg w33 hbox hb; have n0_ := Aside0.mk (Kd.R_below zaw2 hb); have n1_ := Aside0.mk (Kd.S_below (Kd.S_elderB zaw5 gb270 (Nat.le_of_eq hg.symm)) hb); have n2_ := Aside0.mk (Kd.R_below zaw14 hb); have n3_ := Aside0.mk (below_step zaw0 hb); have n4_ := Aside0.mk (hbox); have n5_ := Aside0.mk ((by rw [hg]; exact (below_size zaw0) : w.heap.size ≤ gb270)); have n6_ := Aside0.mk ((by rw [hg]; exact (below_size zaw0) : w.heap.size ≤ gb270)); clear HO_6; clear HO_7; clear HO268; clear HB; have HO_6 := n0_; have HO_7 := n1_; have HO268 := n2_; have HB := n3_; have BK270 := n4_; have GW270 := n5_; have GE270 := n6_; clear n0_ n1_ n2_ n3_ n4_ n5_ n6_; clear hb hbox hg; have hcz34_0 : w33.cell? ⟨gb270, 0, none⟩ = some (.string (⟨#[]⟩ : ByteArray)) := (blk_cell BK270.out 0).trans rfl; have hcz34_1 : w33.cell? ⟨gb270, 1, none⟩ = some (.int .i64 0) := (blk_cell BK270.out 1).trans rfl; have hcz34_2 : w33.cell? ⟨gb270, 2, none⟩ = some (.int .i64 0) := (blk_cell BK270.out 2).trans rfl; have hcz34_3 : w33.cell? ⟨gb270, 3, none⟩ = some (.int .i64 0) := (blk_cell BK270.out 3).trans rfl; have hcz34_4 : w33.cell? ⟨gb270, 4, none⟩ = some (.int .i64 0) := (blk_cell BK270.out 4).trans rfl; have hcz34_5 : w33.cell? ⟨gb270, 5, none⟩ = some (.int .i64 0) := (blk_cell BK270.out 5).trans rfl; have hcz34_6 : w33.cell? ⟨gb270, 6, none⟩ = some (.int .i64 0) := (blk_cell BK270.out 6).trans rfl; have hcz34_7 : w33.cell? ⟨gb270, 7, none⟩ = some (.int .i64 0) := (blk_cell BK270.out 7).trans rfl; have hcz34_8 : w33.cell? ⟨gb270, 8, none⟩ = some (.string (⟨#[]⟩ : ByteArray)) := (blk_cell BK270.out 8).trans rfl; have hcz34_9 : w33.cell? ⟨gb270, 9, none⟩ = some (.int .i64 0) := (blk_cell BK270.out 9).trans rfl; have hcz34_10 : w33.cell? ⟨gb270, 10, none⟩ = some (.slice none 0 0) := (blk_cell BK270.out 10).trans rfl; have hfz34_0 := blk_frozen BK270.out 0; have hfz34_1 := blk_frozen BK270.out 1; have hfz34_2 := blk_frozen BK270.out 2; have hfz34_3 := blk_frozen BK270.out 3; have hfz34_4 := blk_frozen BK270.out 4; have hfz34_5 := blk_frozen BK270.out 5; have hfz34_6 := blk_frozen BK270.out 6; have hfz34_7 := blk_frozen BK270.out 7; have hfz34_8 := blk_frozen BK270.out 8; have hfz34_9 := blk_frozen BK270.out 9; have hfz34_10 := blk_frozen BK270.out 10; obtain ⟨Ao35, co35, eo35⟩ := Kd.R_slice HO268.out; subst eo35))
               go_ret2
               exact ⟨_, zaw9, zaw7, zaw4⟩
           · rw [if_neg c19] at H
             exact absurd H (by simp)
         · rw [if_neg c18] at H
           have c18b0 : decide (x8_2 < (t245.length : Int)) = false := decide_eq_false c18
           clear c18
           replace H := Option.bind_eq_some_iff.mp H
           obtain ⟨t274, A360, H⟩ := H
           try dsimp only at H
           have A36 := Aside0.mk A360
           clear A360
           by_cases c37 : t274.toList = a0.toList
           · rw [if_pos c37] at H
             have c37b0 : (t274.toList == a0.toList) = true := beq_iff_eq.mpr c37
             have c37b1 : (t274.toList != a0.toList) = false := bne_eq_false_iff_eq.mpr c37
             clear c37
             simp only [Option.some.injEq, Prod.mk.injEq] at H
             obtain ⟨rfl, rfl⟩ := H
             obtain ⟨Ao38, co38, eo38⟩ := Kd.R_slice HO_6.out
             subst eo38
             obtain ⟨Ao39, co39, eo39⟩ := Kd.S_slice HO_7.out
             subst eo39
             go_wp2_with (first | ((with_reducible refine gate_callee (f := 23) rfl ?_); refine goesL_ (some 51) rfl rfl Try.func23 (by kernel_rfl) rfl #[.slice Ao39 x7_2.length co39] rfl zaw3 ?_; (with_reducible refine (abugidaref35_Told.calls k2 _ _ x7_2 t274 _ ?side1 ?side2 A36.out).mono ?_); (case side1 => exact zaw11); (case side2 => exact (Kd.S_reads' HO_7.out).2.1); rintro e w40 ⟨rfl, hb⟩; refine ⟨_, rfl, ?_⟩; have n0_ := Aside0.mk (Kd.R_below zaw2 hb); have n1_ := Aside0.mk (Kd.S_below zaw5 hb); have n2_ := Aside0.mk (below_step zaw0 hb); clear HO_6; clear HO_7; clear HB; have HO_6 := n0_; have HO_7 := n1_; have HB := n2_; clear n0_ n1_ n2_; (try clear hb); (try clear hb2); (try clear hk); (try clear hi)))
             go_ret2
             exact ⟨_, zaw9, by (with_reducible repeat (first | apply Kd.S_alloc | apply Kd.S_drewN | apply Kd.S_drew)); exact Kd.S_mono HO_7.out (fun _ hk => trivial), zaw0⟩
           · rw [if_neg c37] at H
             have c37b0 : (t274.toList == a0.toList) = false := beq_eq_false_iff_ne.mpr c37
             have c37b1 : (t274.toList != a0.toList) = true := bne_iff_ne.mpr c37
             simp only [Option.some.injEq, Prod.mk.injEq] at H
             obtain ⟨rfl, rfl⟩ := H
             obtain ⟨Ao41, co41, eo41⟩ := Kd.R_slice HO_6.out
             subst eo41
             obtain ⟨Ao42, co42, eo42⟩ := Kd.S_slice HO_7.out
             subst eo42
             go_wp2_with (first | ((with_reducible refine gate_callee (f := 23) rfl ?_); refine goesL_ (some 51) rfl rfl Try.func23 (by kernel_rfl) rfl #[.slice Ao42 x7_2.length co42] rfl zaw3 ?_; (with_reducible refine (abugidaref35_Told.calls k2 _ _ x7_2 t274 _ ?side1 ?side2 A36.out).mono ?_); (case side1 => exact zaw11); (case side2 => exact (Kd.S_reads' HO_7.out).2.1); rintro e w43 ⟨rfl, hb⟩; refine ⟨_, rfl, ?_⟩; have n0_ := Aside0.mk (Kd.R_below zaw2 hb); have n1_ := Aside0.mk (Kd.S_below zaw5 hb); have n2_ := Aside0.mk (below_step zaw0 hb); clear HO_6; clear HO_7; clear HB; have HO_6 := n0_; have HO_7 := n1_; have HB := n2_; clear n0_ n1_ n2_; (try clear hb); (try clear hb2); (try clear hk); (try clear hi)))
             go_ret2
             exact ⟨_, zaw9, zaw7, zaw0⟩

end Go.Proofs.Ythokkeljfdfppaa.Pb
