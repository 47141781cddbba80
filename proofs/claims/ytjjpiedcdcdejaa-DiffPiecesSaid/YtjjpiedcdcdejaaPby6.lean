-- Printed for this claim by its own gprint.py, over contracts proved by hand; not trusted: Lean checks it.
import Derived.Test.YtjjpiedcdcdejaaDfS
namespace Go.Proofs.Ytjjpiedcdcdejaa.Pb
open Go.Proofs.Ytjjpiedcdcdejaa.Df (diff_Make.f abugidalaw24_sanity.f abugidalaw24_sanity.calls diff_Make.calls diff_Apply.f diff_Apply.calls)
open Go.RowKit Go.Proofs.Ytjjpiedcdcdejaa.Gw Go.Proofs.YtjjpiedcdcdejaaW.PrintWords Go.Proofs.YtjjpiedcdcdejaaW.PrintLast Go.Proofs.YtjjpiedcdcdejaaW.PrintMore
open Go.Proofs.Ytjjpiedcdcdejaa.Gw
attribute [local go_sem] max2_int min2_int max_two min_two max_three min_three max_four min_four   -- for this text's walks alone
set_option linter.unusedVariables false
set_option linter.unusedSimpArgs false

/-! ### abugidalaw24_DiffPieces: function 7 -/
mutual
def abugidalaw24_DiffPieces.j0 : Nat → Bool → ByteArray → ByteArray → List Int → List ByteArray → Bool → Option (Bool)
  | 0, _, _, _, _, _, _ => none
  | k + 1, x3, x4, x5, x7, x8, x48 => if x48 = true then (some false) else (abugidalaw24_DiffPieces.l0 k x3 x4 x5 x7 x8 0 0)
def abugidalaw24_DiffPieces.l0 : Nat → Bool → ByteArray → ByteArray → List Int → List ByteArray → Int → Int → Option (Bool)
  | 0, _, _, _, _, _, _, _ => none
  | k + 1, x3, x4, x5, x7, x8, x9, x10 => if x10 < (x8.length : Int) then (abugidalaw24_DiffPieces.l1 k x3 x4 x5 x7 x8 x9 x10 0) else (if x3 = true then (some (x9 == (x5.size : Int))) else (some false))
def abugidalaw24_DiffPieces.l1 : Nat → Bool → ByteArray → ByteArray → List Int → List ByteArray → Int → Int → Int → Option (Bool)
  | 0, _, _, _, _, _, _, _, _ => none
  | k + 1, x3, x4, x5, x7, x8, x9, x10, x11 => if 0 ≤ x10 then (if x10 < (x8.length : Int) then (if x11 < ((rdOf ByteArray.empty x8 x10).size : Int) then (abugidalaw24_DiffPieces.j3 k x3 x4 x5 x7 x8 x9 x10 x11 (decide ((wrap64 ((wrap64 (x9 + x11)) + 4)) ≤ (x5.size : Int)))) else (abugidalaw24_DiffPieces.j3 k x3 x4 x5 x7 x8 x9 x10 x11 false)) else (none)) else (none)
def abugidalaw24_DiffPieces.j3 : Nat → Bool → ByteArray → ByteArray → List Int → List ByteArray → Int → Int → Int → Bool → Option (Bool)
  | 0, _, _, _, _, _, _, _, _, _ => none
  | k + 1, x3, x4, x5, x7, x8, x9, x10, x11, x70 => if x70 = true then (if 0 ≤ (wrap64 (x9 + x11)) then (if (wrap64 (x9 + x11)) ≤ (wrap64 ((wrap64 (x9 + x11)) + 4)) then (if (wrap64 ((wrap64 (x9 + x11)) + 4)) ≤ (x5.size : Int) then ((abugidalaw24_find.f k x4 (x5.extract ((wrap64 (x9 + x11)) : Int).toNat ((wrap64 ((wrap64 (x9 + x11)) + 4)) : Int).toNat)).bind fun t310 => (if t310 ≥ 0 then (some false) else (abugidalaw24_DiffPieces.l1 k x3 x4 x5 x7 x8 x9 x10 (wrap64 (x11 + 1))))) else (none)) else (none)) else (none)) else (if 0 ≤ x10 then (if x10 < (x8.length : Int) then (if (wrap64 ((wrap64 (2 * x10)) + 1)) ≥ (x7.length : Int) then (if x3 = true then (some ((wrap64 (x9 + ((rdOf ByteArray.empty x8 x10).size : Int))) == (x5.size : Int))) else (some false)) else (if 0 ≤ (wrap64 (2 * x10)) then (if (wrap64 (2 * x10)) < (x7.length : Int) then (if 0 ≤ (wrap64 ((wrap64 (2 * x10)) + 1)) then (if (wrap64 ((wrap64 (2 * x10)) + 1)) < (x7.length : Int) then (if (rd x7 (wrap64 ((wrap64 (2 * x10)) + 1))) < 4 then (abugidalaw24_DiffPieces.j4 k x3 x4 x5 x7 x8 (wrap64 (x9 + ((rdOf ByteArray.empty x8 x10).size : Int))) x10 (rd x7 (wrap64 ((wrap64 (2 * x10)) + 1))) true) else (if (rd x7 (wrap64 (2 * x10))) < 0 then (abugidalaw24_DiffPieces.j4 k x3 x4 x5 x7 x8 (wrap64 (x9 + ((rdOf ByteArray.empty x8 x10).size : Int))) x10 (rd x7 (wrap64 ((wrap64 (2 * x10)) + 1))) true) else (if (wrap64 ((rd x7 (wrap64 (2 * x10))) + (rd x7 (wrap64 ((wrap64 (2 * x10)) + 1))))) > (x4.size : Int) then (abugidalaw24_DiffPieces.j4 k x3 x4 x5 x7 x8 (wrap64 (x9 + ((rdOf ByteArray.empty x8 x10).size : Int))) x10 (rd x7 (wrap64 ((wrap64 (2 * x10)) + 1))) true) else (if (wrap64 ((wrap64 (x9 + ((rdOf ByteArray.empty x8 x10).size : Int))) + (rd x7 (wrap64 ((wrap64 (2 * x10)) + 1))))) > (x5.size : Int) then (abugidalaw24_DiffPieces.j4 k x3 x4 x5 x7 x8 (wrap64 (x9 + ((rdOf ByteArray.empty x8 x10).size : Int))) x10 (rd x7 (wrap64 ((wrap64 (2 * x10)) + 1))) true) else (if 0 ≤ (wrap64 (x9 + ((rdOf ByteArray.empty x8 x10).size : Int))) then (if (wrap64 (x9 + ((rdOf ByteArray.empty x8 x10).size : Int))) ≤ (wrap64 ((wrap64 (x9 + ((rdOf ByteArray.empty x8 x10).size : Int))) + (rd x7 (wrap64 ((wrap64 (2 * x10)) + 1))))) then (if (wrap64 ((wrap64 (x9 + ((rdOf ByteArray.empty x8 x10).size : Int))) + (rd x7 (wrap64 ((wrap64 (2 * x10)) + 1))))) ≤ (x5.size : Int) then ((abugidalaw24_find.f k x4 (x5.extract ((wrap64 (x9 + ((rdOf ByteArray.empty x8 x10).size : Int))) : Int).toNat ((wrap64 ((wrap64 (x9 + ((rdOf ByteArray.empty x8 x10).size : Int))) + (rd x7 (wrap64 ((wrap64 (2 * x10)) + 1))))) : Int).toNat)).bind fun t314 => (abugidalaw24_DiffPieces.j4 k x3 x4 x5 x7 x8 (wrap64 (x9 + ((rdOf ByteArray.empty x8 x10).size : Int))) x10 (rd x7 (wrap64 ((wrap64 (2 * x10)) + 1))) (t314 != (rd x7 (wrap64 (2 * x10)))))) else (none)) else (none)) else (none)))))) else (none)) else (none)) else (none)) else (none))) else (none)) else (none))
def abugidalaw24_DiffPieces.j4 : Nat → Bool → ByteArray → ByteArray → List Int → List ByteArray → Int → Int → Int → Bool → Option (Bool)
  | 0, _, _, _, _, _, _, _, _, _ => none
  | k + 1, x3, x4, x5, x7, x8, x9, x10, x13, x142 => if x142 = true then (some false) else (if (wrap64 (x9 + x13)) < (x5.size : Int) then (if 0 ≤ x9 then (if x9 ≤ (wrap64 ((wrap64 (x9 + x13)) + 1)) then (if (wrap64 ((wrap64 (x9 + x13)) + 1)) ≤ (x5.size : Int) then ((abugidalaw24_find.f k x4 (x5.extract (x9 : Int).toNat ((wrap64 ((wrap64 (x9 + x13)) + 1)) : Int).toNat)).bind fun t315 => (if t315 ≥ 0 then (some false) else (abugidalaw24_DiffPieces.l0 k x3 x4 x5 x7 x8 (wrap64 (x9 + x13)) (wrap64 (x10 + 1))))) else (none)) else (none)) else (none)) else (abugidalaw24_DiffPieces.l0 k x3 x4 x5 x7 x8 (wrap64 (x9 + x13)) (wrap64 (x10 + 1))))
end
def abugidalaw24_DiffPieces.f (k : Nat) (a0_0 : ByteArray) (l0_1 : List Int) : Option (Bool) := (abugidalaw24_sanity.f).bind fun t286 => ((abugidalaw24_Case_base.f a0_0 l0_1).bind fun t287 => ((abugidalaw24_Case_target.f k a0_0 l0_1).bind fun t288 => ((diff_Make.f k t287 t288).bind fun t289 => ((wire_New.f t289).bind fun bt290 => ((wire_Reader_Ints.f k bt290.1 bt290.2).bind fun bt293 => ((wire_Reader_Texts.f k bt293.2.1 bt293.2.2).bind fun bt298 => ((wire_Reader_Bad.f bt298.2.1 bt298.2.2).bind fun bt303 => (if bt303.1 = true then (abugidalaw24_DiffPieces.j0 k t286 t287 t288 bt293.1 bt298.1 true) else ((wire_Reader_Left.f bt303.2.1 bt303.2.2).bind fun bt306 => (if bt306.1 = 0 then (if ((bt293.1.length : Int) % 2) = 0 then (abugidalaw24_DiffPieces.j0 k t286 t287 t288 bt293.1 bt298.1 ((bt298.1.length : Int) != (wrap64 ((wrap64 ((bt293.1.length : Int) / 2)) + 1)))) else (abugidalaw24_DiffPieces.j0 k t286 t287 t288 bt293.1 bt298.1 true)) else (abugidalaw24_DiffPieces.j0 k t286 t287 t288 bt293.1 bt298.1 true)))))))))))
def abugidalaw24_DiffPieces.T18 : Bool × List (List Nat × List Nat) := (true, [([], []), ([], []), ([1], [1]), ([0, 2], [0, 2]), ([3], [3]), ([], []), ([], []), ([6], [6]), ([7], [7]), ([5, 8], [5, 8]), ([9], [9]), ([4, 0, 1, 2, 3, 4], [4]), ([10, 11, 0, 1, 2, 3, 4, 5, 6, 7, 8, 9, 10, 11], [10])])
def abugidalaw24_DiffPieces.B18 : List Nat := [0, 0, 2, 7, 15, 0, 0, 64, 192, 480, 992, 31, 4095]
theorem abugidalaw24_DiffPieces.tab18 : rtab .any (opsOf Try.f7 18) = abugidalaw24_DiffPieces.T18 := by kernel_rfl
theorem abugidalaw24_DiffPieces.bits18 : waitsOk abugidalaw24_DiffPieces.T18.2 abugidalaw24_DiffPieces.B18 = true := by kernel_rfl
set_option maxHeartbeats 8000000 in
set_option maxRecDepth 100000 in
theorem abugidalaw24_DiffPieces.calls (k : Nat) (a0_0 : ByteArray) (A0_1 : Option Addr) (c0_1 : Nat) (l0_1 : List Int) (r : Bool) (w : World) (hr0_1 : Kd.C (Kd.int .i64) w A0_1 l0_1.length l0_1) (hc0_1 : l0_1.length ≤ c0_1) (h : abugidalaw24_DiffPieces.f k a0_0 l0_1 = some r) :
    Calls Try.prog 7 #[.agg #[.string a0_0, .slice A0_1 l0_1.length c0_1]] w fun e w' => e = .returned (.bool r) ∧ Below w.heap.size w w' := by
  have hu24 := Try.underlying24
  have HR0_1 := Aside0.mk hr0_1
  have HC0_1 := Aside0.mk hc0_1
  clear hr0_1 hc0_1
  have HB := Aside0.mk (Below.refl w.heap.size w)
  have H : ((abugidalaw24_sanity.f).bind fun t286 => ((abugidalaw24_Case_base.f a0_0 l0_1).bind fun t287 => ((abugidalaw24_Case_target.f k a0_0 l0_1).bind fun t288 => ((diff_Make.f k t287 t288).bind fun t289 => ((wire_New.f t289).bind fun bt290 => ((wire_Reader_Ints.f k bt290.1 bt290.2).bind fun bt293 => ((wire_Reader_Texts.f k bt293.2.1 bt293.2.2).bind fun bt298 => ((wire_Reader_Bad.f bt298.2.1 bt298.2.2).bind fun bt303 => (if bt303.1 = true then (abugidalaw24_DiffPieces.j0 k t286 t287 t288 bt293.1 bt298.1 true) else ((wire_Reader_Left.f bt303.2.1 bt303.2.2).bind fun bt306 => (if bt306.1 = 0 then (if ((bt293.1.length : Int) % 2) = 0 then (abugidalaw24_DiffPieces.j0 k t286 t287 t288 bt293.1 bt298.1 ((bt298.1.length : Int) != (wrap64 ((wrap64 ((bt293.1.length : Int) / 2)) + 1)))) else (abugidalaw24_DiffPieces.j0 k t286 t287 t288 bt293.1 bt298.1 true)) else (abugidalaw24_DiffPieces.j0 k t286 t287 t288 bt293.1 bt298.1 true)))))))))))) = some r := h
  clear h
  replace H := Option.bind_eq_some_iff.mp H
  obtain ⟨t286, A20, H⟩ := H
  try dsimp only at H
  have A2 := Aside0.mk A20
  clear A20
  replace H := Option.bind_eq_some_iff.mp H
  obtain ⟨t287, A30, H⟩ := H
  try dsimp only at H
  have A3 := Aside0.mk A30
  clear A30
  replace H := Option.bind_eq_some_iff.mp H
  obtain ⟨t288, A40, H⟩ := H
  try dsimp only at H
  have A4 := Aside0.mk A40
  clear A40
  replace H := Option.bind_eq_some_iff.mp H
  obtain ⟨t289, A50, H⟩ := H
  try dsimp only at H
  have A5 := Aside0.mk A50
  clear A50
  replace H := Option.bind_eq_some_iff.mp H
  obtain ⟨⟨t290, t291⟩, A60, H⟩ := H
  try dsimp only at H
  have A6 := Aside0.mk A60
  clear A60
  replace H := Option.bind_eq_some_iff.mp H
  obtain ⟨⟨t293, t296, t297⟩, A70, H⟩ := H
  try dsimp only at H
  have A7 := Aside0.mk A70
  clear A70
  replace H := Option.bind_eq_some_iff.mp H
  obtain ⟨⟨t298, t301, t302⟩, A80, H⟩ := H
  try dsimp only at H
  have A8 := Aside0.mk A80
  clear A80
  have HC9 := Aside0.mk H
  clear H
  go_enter Try.func7, Try.ntmps7
  try go_wp2_with (first | ((with_reducible refine gate_dst (N := 1) rfl ?_); (try (refine gate_guard (by rfl) ?_; dsimp only)); refine box_event ?hg (N := 1) ?hd (cs := #[.string a0_0, .slice A0_1 l0_1.length c0_1]) (t := 24) ?hr ?_; (case hd => rfl); (case hg => rfl); (case hr => first | (go_simp; done) | (go_simp; rfl)); intro gb285 hg w10 hbox hb; have n0_ := Aside0.mk (below_step (by repeat (with_reducible first | exact HB.out | apply below_alloc | apply pw_below_drewN | apply below_drew1)) hb); have n1_ := Aside0.mk (hbox); have n2_ := Aside0.mk ((by rw [hg]; exact (below_size (by repeat (with_reducible first | exact HB.out | apply below_alloc | apply pw_below_drewN | apply below_drew1))) : w.heap.size ≤ gb285)); have n3_ := Aside0.mk ((by rw [hg]; exact (below_size (by repeat (with_reducible first | exact HB.out | apply below_alloc | apply pw_below_drewN | apply below_drew1))) : w.heap.size ≤ gb285)); clear HB; have HB := n0_; have BK285 := n1_; have GW285 := n2_; have GE285 := n3_; clear n0_ n1_ n2_ n3_; clear hb hbox hg) | ((with_reducible refine gate_callee (f := 10) rfl ?_); refine goesL_ (some 14) rfl rfl Try.func10 (by kernel_rfl) rfl #[] rfl (by (try simp only [List.map_toArray, List.map_cons, List.map_nil]); first | done | rfl | (simp only [List.length_drop, List.length_take]; rfl)) ?_; (with_reducible refine (abugidalaw24_sanity.calls  t286 _ A2.out).mono ?_); rintro e w11 ⟨rfl, hb⟩; refine ⟨_, rfl, ?_⟩; have n0_ := Aside0.mk (blk_below (g := gb285) (o := .cells #[.string a0_0, .slice A0_1 l0_1.length c0_1] 24 (0, 0)) (by (with_reducible repeat (first | refine blk_drewN ?_ _ | refine blk_drew ?_ | refine blk_alloc ?_ _)); exact BK285.out) hb); have n1_ := Aside0.mk (below_step (by repeat (first | (with_reducible first | exact HB.out | apply below_alloc | apply pw_below_drewN | apply below_drew1 | refine below_set ?_ GE285.out) | exact HB.out)) hb); clear BK285; clear HB; have BK285 := n0_; have HB := n1_; clear n0_ n1_; (try clear hb); (try clear hb2); (try clear hk); (try clear hi)))
  have n0_ := Aside0.mk (blk_drew BK285.out)
  have n1_ := Aside0.mk (below_drew1 HB.out)
  clear BK285
  clear HB
  have BK285 := n0_
  have HB := n1_
  clear n0_ n1_
  refine start_ (n := 6) (S := fun w' => w'.cell? ⟨gb285, 0, none⟩ = some (.string a0_0) ∧ w'.cell? ⟨gb285, 1, none⟩ = some (.slice A0_1 l0_1.length c0_1)) (ds := []) #[false, false, false, false, false, false] (by kernel_rfl) rfl rfl ⟨(blk_cell BK285.out 0).trans rfl, (blk_cell BK285.out 1).trans rfl⟩ (fun hHeld => ?_)
  generalize w11.drew = w12 at BK285 HB hHeld ⊢
  refine take_ (i := 0) (N := some 15) (v := ?_) (a' := ?_) #[true, false, false, false, false, false] rfl rfl (by kernel_rfl) (fun _ _ _ h => h) (Or.inl ⟨by rfl, ?_⟩) hHeld ?_ ?_
  rotate_left
  · rintro w' ⟨s0, s1⟩
    go_simp
    with_reducible rfl
  rotate_left
  · simp only [Act.put, List.setIfInBounds_toArray, List.set_cons_zero, List.set_cons_succ, i64_w, i32_w]
    rfl
  refine take_ (i := 2) (N := some 17) (v := ?_) (a' := ?_) #[true, false, true, false, false, false] rfl rfl (by kernel_rfl) (fun _ _ _ h => h) (Or.inl ⟨by rfl, ?_⟩) hHeld ?_ ?_
  rotate_left
  · rintro w' ⟨s0, s1⟩
    go_simp
    with_reducible rfl
  rotate_left
  · simp only [Act.put, List.setIfInBounds_toArray, List.set_cons_zero, List.set_cons_succ, i64_w, i32_w]
    rfl
  refine one_ (i := 1) (N := some 16) #[true, true, true, false, false, false] rfl rfl (by kernel_rfl) (by decide) (fun K hK => ?_)
  refine goes_ Try.func14 (by kernel_rfl) rfl #[.agg #[.string a0_0, .slice A0_1 l0_1.length c0_1]] (by rfl) rfl rfl (by (try simp only [List.map_toArray, List.map_cons, List.map_nil]); first | done | rfl | (simp only [List.length_drop, List.length_take]; rfl)) ?_
  with_reducible refine (abugidalaw24_Case_base.calls a0_0 _ _ l0_1 t287 _ ?side1 ?side2 A3.out).mono ?_
  (case side1 => repeat (first | exact (Kd.C_below HR0_1.out HB.out) | (with_reducible refine Kd.C_alloc ?_ _) | (with_reducible refine Kd.C_drewN ?_ _) | (with_reducible refine Kd.C_drew ?_)))
  (case side2 => exact HC0_1.out)
  rintro e w13 ⟨rfl, hb⟩
  refine ⟨_, rfl, ?_⟩
  have n0_ := Aside0.mk (blk_below (g := gb285) (o := .cells #[.string a0_0, .slice A0_1 l0_1.length c0_1] 24 (0, 0)) (by (with_reducible repeat (first | refine blk_drewN ?_ _ | refine blk_drew ?_ | refine blk_alloc ?_ _)); exact BK285.out) hb)
  have n1_ := Aside0.mk (below_step (by repeat (first | (with_reducible first | exact HB.out | apply below_alloc | apply pw_below_drewN | apply below_drew1 | refine below_set ?_ GE285.out) | exact HB.out)) hb)
  clear BK285
  clear HB
  have BK285 := n0_
  have HB := n1_
  clear n0_ n1_
  (try clear hb)
  (try clear hb2)
  (try clear hk)
  (try clear hi)
  refine hK.out _ _ ⟨(blk_cell BK285.out 0).trans rfl, (blk_cell BK285.out 1).trans rfl⟩ (fun hHeld => ?_)
  clear hK K
  refine norm_ (a' := ?_) ?_ ?_
  rotate_left
  · show Act.put _ (some 16) _ = _
    simp only [Act.put, List.setIfInBounds_toArray, List.set_cons_zero, List.set_cons_succ, i64_w, i32_w]
    rfl
  refine one_ (i := 3) (N := some 18) #[true, true, true, true, false, false] rfl rfl (by kernel_rfl) (by decide) (fun K hK => ?_)
  refine goes_ Try.func15 (by kernel_rfl) rfl #[.agg #[.string a0_0, .slice A0_1 l0_1.length c0_1]] (by rfl) rfl rfl (by (try simp only [List.map_toArray, List.map_cons, List.map_nil]); first | done | rfl | (simp only [List.length_drop, List.length_take]; rfl)) ?_
  with_reducible refine (abugidalaw24_Case_target.calls k a0_0 _ _ l0_1 t288 _ ?side1 ?side2 A4.out).mono ?_
  (case side1 => repeat (first | exact (Kd.C_below HR0_1.out HB.out) | (with_reducible refine Kd.C_alloc ?_ _) | (with_reducible refine Kd.C_drewN ?_ _) | (with_reducible refine Kd.C_drew ?_)))
  (case side2 => exact HC0_1.out)
  rintro e w14 ⟨rfl, hb⟩
  refine ⟨_, rfl, ?_⟩
  have n0_ := Aside0.mk (blk_below (g := gb285) (o := .cells #[.string a0_0, .slice A0_1 l0_1.length c0_1] 24 (0, 0)) (by (with_reducible repeat (first | refine blk_drewN ?_ _ | refine blk_drew ?_ | refine blk_alloc ?_ _)); exact BK285.out) hb)
  have n1_ := Aside0.mk (below_step (by repeat (first | (with_reducible first | exact HB.out | apply below_alloc | apply pw_below_drewN | apply below_drew1 | refine below_set ?_ GE285.out) | exact HB.out)) hb)
  clear BK285
  clear HB
  have BK285 := n0_
  have HB := n1_
  clear n0_ n1_
  (try clear hb)
  (try clear hb2)
  (try clear hk)
  (try clear hi)
  refine hK.out _ _ ⟨(blk_cell BK285.out 0).trans rfl, (blk_cell BK285.out 1).trans rfl⟩ (fun hHeld => ?_)
  clear hK K
  refine norm_ (a' := ?_) ?_ ?_
  rotate_left
  · show Act.put _ (some 18) _ = _
    simp only [Act.put, List.setIfInBounds_toArray, List.set_cons_zero, List.set_cons_succ, i64_w, i32_w]
    rfl
  refine pure_ (i := 4) (N := some 4) (v := ?_) (a' := ?_) #[true, true, true, true, true, false] rfl rfl (by kernel_rfl) (fun _ _ _ h => h) (Or.inl ⟨by rfl, ?_⟩) ?_ ?_
  rotate_left
  · intro w'
    go_simp
    with_reducible rfl
  rotate_left
  · simp only [Act.put, List.setIfInBounds_toArray, List.set_cons_zero, List.set_cons_succ, i64_w, i32_w]
    rfl
  refine pure_ (i := 5) (N := some 5) (v := ?_) (a' := ?_) #[true, true, true, true, true, true] rfl rfl (by kernel_rfl) (fun _ _ _ h => h) (Or.inl ⟨by rfl, ?_⟩) ?_ ?_
  rotate_left
  · intro w'
    go_simp
    with_reducible rfl
  rotate_left
  · simp only [Act.put, List.setIfInBounds_toArray, List.set_cons_zero, List.set_cons_succ, i64_w, i32_w]
    rfl
  refine done_ (by kernel_rfl) ?_
  go_upto_region 5 with (first | ((with_reducible refine gate_callee (f := 12) rfl ?_); refine goesL_ (some 21) rfl rfl Try.func12 (by kernel_rfl) rfl #[.string t287, .string t288] rfl (by (try simp only [List.map_toArray, List.map_cons, List.map_nil]); first | done | rfl | (simp only [List.length_drop, List.length_take]; rfl)) ?_; (with_reducible refine (diff_Make.calls k t287 t288 t289 _ A5.out).mono ?_); rintro e w15 ⟨rfl, hb⟩; refine ⟨_, rfl, ?_⟩; have n0_ := Aside0.mk (blk_below (g := gb285) (o := .cells #[.string a0_0, .slice A0_1 l0_1.length c0_1] 24 (0, 0)) (by (with_reducible repeat (first | refine blk_drewN ?_ _ | refine blk_drew ?_ | refine blk_alloc ?_ _)); exact BK285.out) hb); have n1_ := Aside0.mk (below_step (by repeat (first | (with_reducible first | exact HB.out | apply below_alloc | apply pw_below_drewN | apply below_drew1 | refine below_set ?_ GE285.out) | exact HB.out)) hb); clear BK285; clear HB; have BK285 := n0_; have HB := n1_; clear n0_ n1_; (try clear hb); (try clear hb2); (try clear hk); (try clear hi)) | ((with_reducible refine gate_callee (f := 19) rfl ?_); refine goesL_ (some 22) rfl rfl Try.func19 (by kernel_rfl) rfl #[.string t289] rfl (by (try simp only [List.map_toArray, List.map_cons, List.map_nil]); first | done | rfl | (simp only [List.length_drop, List.length_take]; rfl)) ?_; (with_reducible refine (wire_New.calls t289 t290 t291 w _ ?side1 A6.out).mono ?_); (case side1 => repeat (first | (with_reducible first | exact HB.out | apply below_alloc | apply pw_below_drewN | apply below_drew1 | refine below_set ?_ GE285.out) | exact HB.out)); rintro e w16 ⟨g292, rfl, hi, hb, hb2⟩; refine ⟨_, rfl, ?_⟩; have n0_ := Aside0.mk (blk_below (g := gb285) (o := .cells #[.string a0_0, .slice A0_1 l0_1.length c0_1] 24 (0, 0)) (by (with_reducible repeat (first | refine blk_drewN ?_ _ | refine blk_drew ?_ | refine blk_alloc ?_ _)); exact BK285.out) hb2); have n1_ := Aside0.mk (hb); have n2_ := Aside0.mk (hi); have n3_ := Aside0.mk (IsS68.ne_blk hi (blk_below (g := gb285) (o := .cells #[.string a0_0, .slice A0_1 l0_1.length c0_1] 24 (0, 0)) (by (with_reducible repeat (first | refine blk_drewN ?_ _ | refine blk_drew ?_ | refine blk_alloc ?_ _)); exact BK285.out) hb2) (by decide)); have n4_ := Aside0.mk (Ne.symm (IsS68.ne_blk hi (blk_below (g := gb285) (o := .cells #[.string a0_0, .slice A0_1 l0_1.length c0_1] 24 (0, 0)) (by (with_reducible repeat (first | refine blk_drewN ?_ _ | refine blk_drew ?_ | refine blk_alloc ?_ _)); exact BK285.out) hb2) (by decide))); clear BK285; clear HB; have BK285 := n0_; have HB := n1_; have HI292 := n2_; have NB292_285 := n3_; have NB285_292 := n4_; clear n0_ n1_ n2_ n3_ n4_; (try clear hb); (try clear hb2); (try clear hk); (try clear hi)) | ((with_reducible refine gate_callee (f := 20) rfl ?_); refine goesL_ (some 24) rfl rfl Try.func20 (by kernel_rfl) rfl #[.pointer (some ⟨g292, 0, none⟩)] rfl (by (try simp only [List.map_toArray, List.map_cons, List.map_nil]); first | done | rfl | (simp only [List.length_drop, List.length_take]; rfl)) ?_; (with_reducible refine (wire_Reader_Ints.calls k g292 t290 t291 t293 t296 t297 w _ ?side1 ?side2 A7.out).mono ?_); (case side1 => repeat (first | (with_reducible first | exact HI292.out | apply IsS68.alloc | apply IsS68.drewN | apply IsS68.drew | apply IsS68.set_0 | apply IsS68.set_1 | refine IsS68.far ?_ NB292_285.out _) | exact HI292.out)); (case side2 => repeat (first | (with_reducible first | exact HB.out | apply below_alloc | apply pw_below_drewN | apply below_drew1 | refine below_set ?_ (IsS68.ge HI292.out) | refine below_set ?_ GE285.out) | exact HB.out)); rintro e w17 ⟨v294, rfl, ho0, hi, hb, hk⟩; refine ⟨_, rfl, ?_⟩; have n0_ := Aside0.mk (KeepBut.blk hk (g' := gb285) (o := .cells #[.string a0_0, .slice A0_1 l0_1.length c0_1] 24 (0, 0)) (by (with_reducible repeat (first | refine blk_drewN ?_ _ | refine blk_drew ?_ | refine blk_alloc ?_ _)); exact BK285.out) NB285_292.out (by simp)); have n1_ := Aside0.mk (Kd.R_lower ho0 (below_size (by repeat (first | (with_reducible first | exact HB.out | apply below_alloc | apply pw_below_drewN | apply below_drew1 | refine below_set ?_ (IsS68.ge HI292.out) | refine below_set ?_ GE285.out) | exact HB.out)))); have n2_ := Aside0.mk (hb); have n3_ := Aside0.mk (hi); clear BK285; clear HB; clear HI292; have BK285 := n0_; have HO295 := n1_; have HB := n2_; have HI292 := n3_; clear n0_ n1_ n2_ n3_; (try clear hb); (try clear hb2); (try clear hk); (try clear hi); (try clear ho0)) | ((with_reducible refine gate_callee (f := 21) rfl ?_); refine goesL_ (some 26) rfl rfl Try.func21 (by kernel_rfl) rfl #[.pointer (some ⟨g292, 0, none⟩)] rfl (by (try simp only [List.map_toArray, List.map_cons, List.map_nil]); first | done | rfl | (simp only [List.length_drop, List.length_take]; rfl)) ?_; (with_reducible refine (wire_Reader_Texts.calls k g292 t296 t297 t298 t301 t302 w _ ?side1 ?side2 A8.out).mono ?_); (case side1 => repeat (first | (with_reducible first | exact HI292.out | apply IsS68.alloc | apply IsS68.drewN | apply IsS68.drew | apply IsS68.set_0 | apply IsS68.set_1 | refine IsS68.far ?_ NB292_285.out _) | exact HI292.out)); (case side2 => repeat (first | (with_reducible first | exact HB.out | apply below_alloc | apply pw_below_drewN | apply below_drew1 | refine below_set ?_ (IsS68.ge HI292.out) | refine below_set ?_ GE285.out) | exact HB.out)); rintro e w18 ⟨v299, rfl, ho0, hi, hb, hk⟩; refine ⟨_, rfl, ?_⟩; have n0_ := Aside0.mk (KeepBut.blk hk (g' := gb285) (o := .cells #[.string a0_0, .slice A0_1 l0_1.length c0_1] 24 (0, 0)) (by (with_reducible repeat (first | refine blk_drewN ?_ _ | refine blk_drew ?_ | refine blk_alloc ?_ _)); exact BK285.out) NB285_292.out (by simp)); have n1_ := Aside0.mk (Kd.R_mono (Kd.R_keep (IsS68.apart (show IsS68 w _ g292 t296 t297 from by repeat (first | (with_reducible first | exact HI292.out | apply IsS68.alloc | apply IsS68.drewN | apply IsS68.drew | apply IsS68.set_0 | apply IsS68.set_1 | refine IsS68.far ?_ NB292_285.out _) | exact HI292.out)) (by (with_reducible repeat (first | apply Kd.R_alloc | apply Kd.R_drewN | apply Kd.R_drew)); exact HO295.out) (by decide)) hk (fun _ h => h.2)) (fun _ h => h.1)); have n2_ := Aside0.mk (Kd.R_lower ho0 (below_size (by repeat (first | (with_reducible first | exact HB.out | apply below_alloc | apply pw_below_drewN | apply below_drew1 | refine below_set ?_ (IsS68.ge HI292.out) | refine below_set ?_ GE285.out) | exact HB.out)))); have n3_ := Aside0.mk (hb); have n4_ := Aside0.mk (hi); clear BK285; clear HO295; clear HB; clear HI292; have BK285 := n0_; have HO295 := n1_; have HO300 := n2_; have HB := n3_; have HI292 := n4_; clear n0_ n1_ n2_ n3_ n4_; (try clear hb); (try clear hb2); (try clear hk); (try clear hi); (try clear ho0)))
  (try simp only [Act.put, List.setIfInBounds_toArray, List.set_cons_zero, List.set_cons_succ])
  go_cut [48] (fun v48 wc => ∃ (kq : Nat) (x48_8 : Bool), v48 = .bool x48_8 ∧ Aside0 (abugidalaw24_DiffPieces.j0 kq t286 t287 t288 t293 t298 x48_8 = some r) ∧ Aside0 (kq ≤ k) ∧ Aside0 (Kd.R (Kd.int .i64) 3 wc w.heap.size (fun _ => True) v294 t293) ∧ Aside0 (Kd.R Kd.string 9 wc w.heap.size (fun _ => True) v299 t298) ∧ Aside0 (wc.heap[gb285]? = some (.cells #[.string a0_0, (.slice A0_1 l0_1.length c0_1)] 24 (0, 0))) ∧ Aside0 (Below w.heap.size w wc))
  case first =>
    have H := HC9.out
    clear HC9
    replace H := Option.bind_eq_some_iff.mp H
    obtain ⟨⟨t303, t304, t305⟩, A190, H⟩ := H
    try dsimp only at H
    have A19 := Aside0.mk A190
    clear A190
    by_cases c20 : t303 = true
    · subst c20
      rw [if_pos rfl] at H
      have H' := Aside0.mk H
      clear H
      go_wp2_with (first | ((with_reducible refine gate_callee (f := 22) rfl ?_); refine goesL_ (some 28) rfl rfl Try.func22 (by kernel_rfl) rfl #[.pointer (some ⟨g292, 0, none⟩)] rfl (by (try simp only [List.map_toArray, List.map_cons, List.map_nil]); first | done | rfl | (simp only [List.length_drop, List.length_take]; rfl)) ?_; (with_reducible refine (wire_Reader_Bad.calls g292 t301 t302 true t304 t305 w _ ?side1 ?side2 A19.out).mono ?_); (case side1 => repeat (first | (with_reducible first | exact HI292.out | apply IsS68.alloc | apply IsS68.drewN | apply IsS68.drew | apply IsS68.set_0 | apply IsS68.set_1 | refine IsS68.far ?_ NB292_285.out _) | exact HI292.out)); (case side2 => repeat (first | (with_reducible first | exact HB.out | apply below_alloc | apply pw_below_drewN | apply below_drew1 | refine below_set ?_ (IsS68.ge HI292.out) | refine below_set ?_ GE285.out) | exact HB.out)); rintro e w21 ⟨rfl, hi, hb, hk⟩; refine ⟨_, rfl, ?_⟩; have n0_ := Aside0.mk (KeepBut.blk hk (g' := gb285) (o := .cells #[.string a0_0, .slice A0_1 l0_1.length c0_1] 24 (0, 0)) (by (with_reducible repeat (first | refine blk_drewN ?_ _ | refine blk_drew ?_ | refine blk_alloc ?_ _)); exact BK285.out) NB285_292.out (by simp)); have n1_ := Aside0.mk (Kd.R_mono (Kd.R_keep (IsS68.apart (show IsS68 w _ g292 t301 t302 from by repeat (first | (with_reducible first | exact HI292.out | apply IsS68.alloc | apply IsS68.drewN | apply IsS68.drew | apply IsS68.set_0 | apply IsS68.set_1 | refine IsS68.far ?_ NB292_285.out _) | exact HI292.out)) (by (with_reducible repeat (first | apply Kd.R_alloc | apply Kd.R_drewN | apply Kd.R_drew)); exact HO295.out) (by decide)) hk (fun _ h => h.2)) (fun _ h => h.1)); have n2_ := Aside0.mk (Kd.R_mono (Kd.R_keep (IsS68.apart (show IsS68 w _ g292 t301 t302 from by repeat (first | (with_reducible first | exact HI292.out | apply IsS68.alloc | apply IsS68.drewN | apply IsS68.drew | apply IsS68.set_0 | apply IsS68.set_1 | refine IsS68.far ?_ NB292_285.out _) | exact HI292.out)) (by (with_reducible repeat (first | apply Kd.R_alloc | apply Kd.R_drewN | apply Kd.R_drew)); exact HO300.out) (by decide)) hk (fun _ h => h.2)) (fun _ h => h.1)); have n3_ := Aside0.mk (hb); have n4_ := Aside0.mk (hi); clear BK285; clear HO295; clear HO300; clear HB; clear HI292; have BK285 := n0_; have HO295 := n1_; have HO300 := n2_; have HB := n3_; have HI292 := n4_; clear n0_ n1_ n2_ n3_ n4_; (try clear hb); (try clear hb2); (try clear hk); (try clear hi)))
      go_meet
      case rel => exact ⟨_, (true), (by first | rfl | (simp; done) | (simp [*]; done)), H', ⟨by first | omega | exact Nat.le_refl _⟩, ⟨by (with_reducible repeat (first | apply Kd.R_alloc | apply Kd.R_drewN | apply Kd.R_drew)); exact HO295.out⟩, ⟨by (with_reducible repeat (first | apply Kd.R_alloc | apply Kd.R_drewN | apply Kd.R_drew)); exact HO300.out⟩, ⟨by (with_reducible repeat (first | refine blk_drewN ?_ _ | refine blk_drew ?_ | refine blk_alloc ?_ _)); exact BK285.out⟩, ⟨by repeat (first | (with_reducible first | exact HB.out | apply below_alloc | apply pw_below_drewN | apply below_drew1 | refine below_set ?_ (IsS68.ge HI292.out) | refine below_set ?_ GE285.out) | exact HB.out)⟩⟩
    · replace c20 := Bool.eq_false_iff.mpr c20
      subst c20
      rw [if_neg (show ¬ (false = true) by decide)] at H
      replace H := Option.bind_eq_some_iff.mp H
      obtain ⟨⟨t306, t307, t308⟩, A220, H⟩ := H
      try dsimp only at H
      have A22 := Aside0.mk A220
      clear A220
      by_cases c23 : t306 = 0
      · rw [if_pos c23] at H
        have c23b0 : (t306 == 0) = true := beq_iff_eq.mpr c23
        have c23b1 : (t306 != 0) = false := bne_eq_false_iff_eq.mpr c23
        clear c23
        (first | rw [c23b0] | (simp only [i64_w, i32_w]; rw [c23b0]) | skip)
        by_cases c24 : ((t293.length : Int) % 2) = 0
        · rw [if_pos c24] at H
          have c24b0 : (((t293.length : Int) % 2) == 0) = true := beq_iff_eq.mpr c24
          have c24b1 : (((t293.length : Int) % 2) != 0) = false := bne_eq_false_iff_eq.mpr c24
          clear c24
          have H' := Aside0.mk H
          clear H
          go_wp2_with (first | ((with_reducible refine gate_callee (f := 22) rfl ?_); refine goesL_ (some 28) rfl rfl Try.func22 (by kernel_rfl) rfl #[.pointer (some ⟨g292, 0, none⟩)] rfl (by (try simp only [List.map_toArray, List.map_cons, List.map_nil]); first | done | rfl | (simp only [List.length_drop, List.length_take]; rfl)) ?_; (with_reducible refine (wire_Reader_Bad.calls g292 t301 t302 false t304 t305 w _ ?side1 ?side2 A19.out).mono ?_); (case side1 => repeat (first | (with_reducible first | exact HI292.out | apply IsS68.alloc | apply IsS68.drewN | apply IsS68.drew | apply IsS68.set_0 | apply IsS68.set_1 | refine IsS68.far ?_ NB292_285.out _) | exact HI292.out)); (case side2 => repeat (first | (with_reducible first | exact HB.out | apply below_alloc | apply pw_below_drewN | apply below_drew1 | refine below_set ?_ (IsS68.ge HI292.out) | refine below_set ?_ GE285.out) | exact HB.out)); rintro e w25 ⟨rfl, hi, hb, hk⟩; refine ⟨_, rfl, ?_⟩; have n0_ := Aside0.mk (KeepBut.blk hk (g' := gb285) (o := .cells #[.string a0_0, .slice A0_1 l0_1.length c0_1] 24 (0, 0)) (by (with_reducible repeat (first | refine blk_drewN ?_ _ | refine blk_drew ?_ | refine blk_alloc ?_ _)); exact BK285.out) NB285_292.out (by simp)); have n1_ := Aside0.mk (Kd.R_mono (Kd.R_keep (IsS68.apart (show IsS68 w _ g292 t301 t302 from by repeat (first | (with_reducible first | exact HI292.out | apply IsS68.alloc | apply IsS68.drewN | apply IsS68.drew | apply IsS68.set_0 | apply IsS68.set_1 | refine IsS68.far ?_ NB292_285.out _) | exact HI292.out)) (by (with_reducible repeat (first | apply Kd.R_alloc | apply Kd.R_drewN | apply Kd.R_drew)); exact HO295.out) (by decide)) hk (fun _ h => h.2)) (fun _ h => h.1)); have n2_ := Aside0.mk (Kd.R_mono (Kd.R_keep (IsS68.apart (show IsS68 w _ g292 t301 t302 from by repeat (first | (with_reducible first | exact HI292.out | apply IsS68.alloc | apply IsS68.drewN | apply IsS68.drew | apply IsS68.set_0 | apply IsS68.set_1 | refine IsS68.far ?_ NB292_285.out _) | exact HI292.out)) (by (with_reducible repeat (first | apply Kd.R_alloc | apply Kd.R_drewN | apply Kd.R_drew)); exact HO300.out) (by decide)) hk (fun _ h => h.2)) (fun _ h => h.1)); have n3_ := Aside0.mk (hb); have n4_ := Aside0.mk (hi); clear BK285; clear HO295; clear HO300; clear HB; clear HI292; have BK285 := n0_; have HO295 := n1_; have HO300 := n2_; have HB := n3_; have HI292 := n4_; clear n0_ n1_ n2_ n3_ n4_; (try clear hb); (try clear hb2); (try clear hk); (try clear hi)) | (go_at_call 23; (with_reducible refine (wire_Reader_Left.calls g292 t304 t305 t306 t307 t308 w _ ?side1 ?side2 A22.out).mono ?_); (case side1 => repeat (first | (with_reducible first | exact HI292.out | apply IsS68.alloc | apply IsS68.drewN | apply IsS68.drew | apply IsS68.set_0 | apply IsS68.set_1 | refine IsS68.far ?_ NB292_285.out _) | exact HI292.out)); (case side2 => repeat (first | (with_reducible first | exact HB.out | apply below_alloc | apply pw_below_drewN | apply below_drew1 | refine below_set ?_ (IsS68.ge HI292.out) | refine below_set ?_ GE285.out) | exact HB.out)); rintro e w26 ⟨rfl, hi, hb, hk⟩; have n0_ := Aside0.mk (KeepBut.blk hk (g' := gb285) (o := .cells #[.string a0_0, .slice A0_1 l0_1.length c0_1] 24 (0, 0)) (by (with_reducible repeat (first | refine blk_drewN ?_ _ | refine blk_drew ?_ | refine blk_alloc ?_ _)); exact BK285.out) NB285_292.out (by simp)); have n1_ := Aside0.mk (Kd.R_mono (Kd.R_keep (IsS68.apart (show IsS68 w _ g292 t304 t305 from by repeat (first | (with_reducible first | exact HI292.out | apply IsS68.alloc | apply IsS68.drewN | apply IsS68.drew | apply IsS68.set_0 | apply IsS68.set_1 | refine IsS68.far ?_ NB292_285.out _) | exact HI292.out)) (by (with_reducible repeat (first | apply Kd.R_alloc | apply Kd.R_drewN | apply Kd.R_drew)); exact HO295.out) (by decide)) hk (fun _ h => h.2)) (fun _ h => h.1)); have n2_ := Aside0.mk (Kd.R_mono (Kd.R_keep (IsS68.apart (show IsS68 w _ g292 t304 t305 from by repeat (first | (with_reducible first | exact HI292.out | apply IsS68.alloc | apply IsS68.drewN | apply IsS68.drew | apply IsS68.set_0 | apply IsS68.set_1 | refine IsS68.far ?_ NB292_285.out _) | exact HI292.out)) (by (with_reducible repeat (first | apply Kd.R_alloc | apply Kd.R_drewN | apply Kd.R_drew)); exact HO300.out) (by decide)) hk (fun _ h => h.2)) (fun _ h => h.1)); have n3_ := Aside0.mk (hb); have n4_ := Aside0.mk (hi); clear BK285; clear HO295; clear HO300; clear HB; clear HI292; have BK285 := n0_; have HO295 := n1_; have HO300 := n2_; have HB := n3_; have HI292 := n4_; clear n0_ n1_ n2_ n3_ n4_; (try clear hb); (try clear hb2); (try clear hk); (try clear hi); obtain ⟨Ao27, co27, eo27⟩ := Kd.R_slice HO295.out; subst eo27; obtain ⟨Ao28, co28, eo28⟩ := Kd.R_slice HO300.out; subst eo28))
          go_meet
          case rel => exact ⟨_, (((t298.length : Int) != (wrap64 ((wrap64 ((t293.length : Int) / 2)) + 1)))), (by first | rfl | (simp; done) | (simp [*]; done)), H', ⟨by first | omega | exact Nat.le_refl _⟩, ⟨by (with_reducible repeat (first | apply Kd.R_alloc | apply Kd.R_drewN | apply Kd.R_drew)); exact HO295.out⟩, ⟨by (with_reducible repeat (first | apply Kd.R_alloc | apply Kd.R_drewN | apply Kd.R_drew)); exact HO300.out⟩, ⟨by (with_reducible repeat (first | refine blk_drewN ?_ _ | refine blk_drew ?_ | refine blk_alloc ?_ _)); exact BK285.out⟩, ⟨by repeat (first | (with_reducible first | exact HB.out | apply below_alloc | apply pw_below_drewN | apply below_drew1 | refine below_set ?_ (IsS68.ge HI292.out) | refine below_set ?_ GE285.out) | exact HB.out)⟩⟩
        · rw [if_neg c24] at H
          have c24b0 : (((t293.length : Int) % 2) == 0) = false := beq_eq_false_iff_ne.mpr c24
          have c24b1 : (((t293.length : Int) % 2) != 0) = true := bne_iff_ne.mpr c24
          have H' := Aside0.mk H
          clear H
          go_wp2_with (first | ((with_reducible refine gate_callee (f := 22) rfl ?_); refine goesL_ (some 28) rfl rfl Try.func22 (by kernel_rfl) rfl #[.pointer (some ⟨g292, 0, none⟩)] rfl (by (try simp only [List.map_toArray, List.map_cons, List.map_nil]); first | done | rfl | (simp only [List.length_drop, List.length_take]; rfl)) ?_; (with_reducible refine (wire_Reader_Bad.calls g292 t301 t302 false t304 t305 w _ ?side1 ?side2 A19.out).mono ?_); (case side1 => repeat (first | (with_reducible first | exact HI292.out | apply IsS68.alloc | apply IsS68.drewN | apply IsS68.drew | apply IsS68.set_0 | apply IsS68.set_1 | refine IsS68.far ?_ NB292_285.out _) | exact HI292.out)); (case side2 => repeat (first | (with_reducible first | exact HB.out | apply below_alloc | apply pw_below_drewN | apply below_drew1 | refine below_set ?_ (IsS68.ge HI292.out) | refine below_set ?_ GE285.out) | exact HB.out)); rintro e w29 ⟨rfl, hi, hb, hk⟩; refine ⟨_, rfl, ?_⟩; have n0_ := Aside0.mk (KeepBut.blk hk (g' := gb285) (o := .cells #[.string a0_0, .slice A0_1 l0_1.length c0_1] 24 (0, 0)) (by (with_reducible repeat (first | refine blk_drewN ?_ _ | refine blk_drew ?_ | refine blk_alloc ?_ _)); exact BK285.out) NB285_292.out (by simp)); have n1_ := Aside0.mk (Kd.R_mono (Kd.R_keep (IsS68.apart (show IsS68 w _ g292 t301 t302 from by repeat (first | (with_reducible first | exact HI292.out | apply IsS68.alloc | apply IsS68.drewN | apply IsS68.drew | apply IsS68.set_0 | apply IsS68.set_1 | refine IsS68.far ?_ NB292_285.out _) | exact HI292.out)) (by (with_reducible repeat (first | apply Kd.R_alloc | apply Kd.R_drewN | apply Kd.R_drew)); exact HO295.out) (by decide)) hk (fun _ h => h.2)) (fun _ h => h.1)); have n2_ := Aside0.mk (Kd.R_mono (Kd.R_keep (IsS68.apart (show IsS68 w _ g292 t301 t302 from by repeat (first | (with_reducible first | exact HI292.out | apply IsS68.alloc | apply IsS68.drewN | apply IsS68.drew | apply IsS68.set_0 | apply IsS68.set_1 | refine IsS68.far ?_ NB292_285.out _) | exact HI292.out)) (by (with_reducible repeat (first | apply Kd.R_alloc | apply Kd.R_drewN | apply Kd.R_drew)); exact HO300.out) (by decide)) hk (fun _ h => h.2)) (fun _ h => h.1)); have n3_ := Aside0.mk (hb); have n4_ := Aside0.mk (hi); clear BK285; clear HO295; clear HO300; clear HB; clear HI292; have BK285 := n0_; have HO295 := n1_; have HO300 := n2_; have HB := n3_; have HI292 := n4_; clear n0_ n1_ n2_ n3_ n4_; (try clear hb); (try clear hb2); (try clear hk); (try clear hi)) | (go_at_call 23; (with_reducible refine (wire_Reader_Left.calls g292 t304 t305 t306 t307 t308 w _ ?side1 ?side2 A22.out).mono ?_); (case side1 => repeat (first | (with_reducible first | exact HI292.out | apply IsS68.alloc | apply IsS68.drewN | apply IsS68.drew | apply IsS68.set_0 | apply IsS68.set_1 | refine IsS68.far ?_ NB292_285.out _) | exact HI292.out)); (case side2 => repeat (first | (with_reducible first | exact HB.out | apply below_alloc | apply pw_below_drewN | apply below_drew1 | refine below_set ?_ (IsS68.ge HI292.out) | refine below_set ?_ GE285.out) | exact HB.out)); rintro e w30 ⟨rfl, hi, hb, hk⟩; have n0_ := Aside0.mk (KeepBut.blk hk (g' := gb285) (o := .cells #[.string a0_0, .slice A0_1 l0_1.length c0_1] 24 (0, 0)) (by (with_reducible repeat (first | refine blk_drewN ?_ _ | refine blk_drew ?_ | refine blk_alloc ?_ _)); exact BK285.out) NB285_292.out (by simp)); have n1_ := Aside0.mk (Kd.R_mono (Kd.R_keep (IsS68.apart (show IsS68 w _ g292 t304 t305 from by repeat (first | (with_reducible first | exact HI292.out | apply IsS68.alloc | apply IsS68.drewN | apply IsS68.drew | apply IsS68.set_0 | apply IsS68.set_1 | refine IsS68.far ?_ NB292_285.out _) | exact HI292.out)) (by (with_reducible repeat (first | apply Kd.R_alloc | apply Kd.R_drewN | apply Kd.R_drew)); exact HO295.out) (by decide)) hk (fun _ h => h.2)) (fun _ h => h.1)); have n2_ := Aside0.mk (Kd.R_mono (Kd.R_keep (IsS68.apart (show IsS68 w _ g292 t304 t305 from by repeat (first | (with_reducible first | exact HI292.out | apply IsS68.alloc | apply IsS68.drewN | apply IsS68.drew | apply IsS68.set_0 | apply IsS68.set_1 | refine IsS68.far ?_ NB292_285.out _) | exact HI292.out)) (by (with_reducible repeat (first | apply Kd.R_alloc | apply Kd.R_drewN | apply Kd.R_drew)); exact HO300.out) (by decide)) hk (fun _ h => h.2)) (fun _ h => h.1)); have n3_ := Aside0.mk (hb); have n4_ := Aside0.mk (hi); clear BK285; clear HO295; clear HO300; clear HB; clear HI292; have BK285 := n0_; have HO295 := n1_; have HO300 := n2_; have HB := n3_; have HI292 := n4_; clear n0_ n1_ n2_ n3_ n4_; (try clear hb); (try clear hb2); (try clear hk); (try clear hi); obtain ⟨Ao31, co31, eo31⟩ := Kd.R_slice HO295.out; subst eo31))
          go_meet
          case rel => exact ⟨_, (true), (by first | rfl | (simp; done) | (simp [*]; done)), H', ⟨by first | omega | exact Nat.le_refl _⟩, ⟨by (with_reducible repeat (first | apply Kd.R_alloc | apply Kd.R_drewN | apply Kd.R_drew)); exact HO295.out⟩, ⟨by (with_reducible repeat (first | apply Kd.R_alloc | apply Kd.R_drewN | apply Kd.R_drew)); exact HO300.out⟩, ⟨by (with_reducible repeat (first | refine blk_drewN ?_ _ | refine blk_drew ?_ | refine blk_alloc ?_ _)); exact BK285.out⟩, ⟨by repeat (first | (with_reducible first | exact HB.out | apply below_alloc | apply pw_below_drewN | apply below_drew1 | refine below_set ?_ (IsS68.ge HI292.out) | refine below_set ?_ GE285.out) | exact HB.out)⟩⟩
      · rw [if_neg c23] at H
        have c23b0 : (t306 == 0) = false := beq_eq_false_iff_ne.mpr c23
        have c23b1 : (t306 != 0) = true := bne_iff_ne.mpr c23
        (first | rw [c23b0] | (simp only [i64_w, i32_w]; rw [c23b0]) | skip)
        have H' := Aside0.mk H
        clear H
        go_wp2_with (first | ((with_reducible refine gate_callee (f := 22) rfl ?_); refine goesL_ (some 28) rfl rfl Try.func22 (by kernel_rfl) rfl #[.pointer (some ⟨g292, 0, none⟩)] rfl (by (try simp only [List.map_toArray, List.map_cons, List.map_nil]); first | done | rfl | (simp only [List.length_drop, List.length_take]; rfl)) ?_; (with_reducible refine (wire_Reader_Bad.calls g292 t301 t302 false t304 t305 w _ ?side1 ?side2 A19.out).mono ?_); (case side1 => repeat (first | (with_reducible first | exact HI292.out | apply IsS68.alloc | apply IsS68.drewN | apply IsS68.drew | apply IsS68.set_0 | apply IsS68.set_1 | refine IsS68.far ?_ NB292_285.out _) | exact HI292.out)); (case side2 => repeat (first | (with_reducible first | exact HB.out | apply below_alloc | apply pw_below_drewN | apply below_drew1 | refine below_set ?_ (IsS68.ge HI292.out) | refine below_set ?_ GE285.out) | exact HB.out)); rintro e w32 ⟨rfl, hi, hb, hk⟩; refine ⟨_, rfl, ?_⟩; have n0_ := Aside0.mk (KeepBut.blk hk (g' := gb285) (o := .cells #[.string a0_0, .slice A0_1 l0_1.length c0_1] 24 (0, 0)) (by (with_reducible repeat (first | refine blk_drewN ?_ _ | refine blk_drew ?_ | refine blk_alloc ?_ _)); exact BK285.out) NB285_292.out (by simp)); have n1_ := Aside0.mk (Kd.R_mono (Kd.R_keep (IsS68.apart (show IsS68 w _ g292 t301 t302 from by repeat (first | (with_reducible first | exact HI292.out | apply IsS68.alloc | apply IsS68.drewN | apply IsS68.drew | apply IsS68.set_0 | apply IsS68.set_1 | refine IsS68.far ?_ NB292_285.out _) | exact HI292.out)) (by (with_reducible repeat (first | apply Kd.R_alloc | apply Kd.R_drewN | apply Kd.R_drew)); exact HO295.out) (by decide)) hk (fun _ h => h.2)) (fun _ h => h.1)); have n2_ := Aside0.mk (Kd.R_mono (Kd.R_keep (IsS68.apart (show IsS68 w _ g292 t301 t302 from by repeat (first | (with_reducible first | exact HI292.out | apply IsS68.alloc | apply IsS68.drewN | apply IsS68.drew | apply IsS68.set_0 | apply IsS68.set_1 | refine IsS68.far ?_ NB292_285.out _) | exact HI292.out)) (by (with_reducible repeat (first | apply Kd.R_alloc | apply Kd.R_drewN | apply Kd.R_drew)); exact HO300.out) (by decide)) hk (fun _ h => h.2)) (fun _ h => h.1)); have n3_ := Aside0.mk (hb); have n4_ := Aside0.mk (hi); clear BK285; clear HO295; clear HO300; clear HB; clear HI292; have BK285 := n0_; have HO295 := n1_; have HO300 := n2_; have HB := n3_; have HI292 := n4_; clear n0_ n1_ n2_ n3_ n4_; (try clear hb); (try clear hb2); (try clear hk); (try clear hi)) | (go_at_call 23; (with_reducible refine (wire_Reader_Left.calls g292 t304 t305 t306 t307 t308 w _ ?side1 ?side2 A22.out).mono ?_); (case side1 => repeat (first | (with_reducible first | exact HI292.out | apply IsS68.alloc | apply IsS68.drewN | apply IsS68.drew | apply IsS68.set_0 | apply IsS68.set_1 | refine IsS68.far ?_ NB292_285.out _) | exact HI292.out)); (case side2 => repeat (first | (with_reducible first | exact HB.out | apply below_alloc | apply pw_below_drewN | apply below_drew1 | refine below_set ?_ (IsS68.ge HI292.out) | refine below_set ?_ GE285.out) | exact HB.out)); rintro e w33 ⟨rfl, hi, hb, hk⟩; have n0_ := Aside0.mk (KeepBut.blk hk (g' := gb285) (o := .cells #[.string a0_0, .slice A0_1 l0_1.length c0_1] 24 (0, 0)) (by (with_reducible repeat (first | refine blk_drewN ?_ _ | refine blk_drew ?_ | refine blk_alloc ?_ _)); exact BK285.out) NB285_292.out (by simp)); have n1_ := Aside0.mk (Kd.R_mono (Kd.R_keep (IsS68.apart (show IsS68 w _ g292 t304 t305 from by repeat (first | (with_reducible first | exact HI292.out | apply IsS68.alloc | apply IsS68.drewN | apply IsS68.drew | apply IsS68.set_0 | apply IsS68.set_1 | refine IsS68.far ?_ NB292_285.out _) | exact HI292.out)) (by (with_reducible repeat (first | apply Kd.R_alloc | apply Kd.R_drewN | apply Kd.R_drew)); exact HO295.out) (by decide)) hk (fun _ h => h.2)) (fun _ h => h.1)); have n2_ := Aside0.mk (Kd.R_mono (Kd.R_keep (IsS68.apart (show IsS68 w _ g292 t304 t305 from by repeat (first | (with_reducible first | exact HI292.out | apply IsS68.alloc | apply IsS68.drewN | apply IsS68.drew | apply IsS68.set_0 | apply IsS68.set_1 | refine IsS68.far ?_ NB292_285.out _) | exact HI292.out)) (by (with_reducible repeat (first | apply Kd.R_alloc | apply Kd.R_drewN | apply Kd.R_drew)); exact HO300.out) (by decide)) hk (fun _ h => h.2)) (fun _ h => h.1)); have n3_ := Aside0.mk (hb); have n4_ := Aside0.mk (hi); clear BK285; clear HO295; clear HO300; clear HB; clear HI292; have BK285 := n0_; have HO295 := n1_; have HO300 := n2_; have HB := n3_; have HI292 := n4_; clear n0_ n1_ n2_ n3_ n4_; (try clear hb); (try clear hb2); (try clear hk); (try clear hi)))
        go_meet
        case rel => exact ⟨_, (true), (by first | rfl | (simp; done) | (simp [*]; done)), H', ⟨by first | omega | exact Nat.le_refl _⟩, ⟨by (with_reducible repeat (first | apply Kd.R_alloc | apply Kd.R_drewN | apply Kd.R_drew)); exact HO295.out⟩, ⟨by (with_reducible repeat (first | apply Kd.R_alloc | apply Kd.R_drewN | apply Kd.R_drew)); exact HO300.out⟩, ⟨by (with_reducible repeat (first | refine blk_drewN ?_ _ | refine blk_drew ?_ | refine blk_alloc ?_ _)); exact BK285.out⟩, ⟨by repeat (first | (with_reducible first | exact HB.out | apply below_alloc | apply pw_below_drewN | apply below_drew1 | refine below_set ?_ (IsS68.ge HI292.out) | refine below_set ?_ GE285.out) | exact HB.out)⟩⟩
  case rest =>
    clear HC9
    try clear c1
    try clear c2
    try clear p2
    try clear p6
    try clear c7
    try clear c10
    try clear c12
    try clear c14
    try clear c15
    try clear c19
    try clear c20
    try clear c21
    try clear c22
    try clear c23
    try clear c23b0
    try clear c23b1
    try clear c24
    try clear c24b0
    try clear c24b1
    obtain ⟨kq, x48_8, rfl, HA, HJ8, HO_7, HO_8, BK285, HB⟩ := hcut
    cases kq with
    | zero => exact absurd HA.out (by simp [abugidalaw24_DiffPieces.j0])
    | succ kj8 =>
      have H := HA.out
      clear HA
      simp only [abugidalaw24_DiffPieces.j0] at H
      by_cases c34 : x48_8 = true
      · subst c34
        rw [if_pos rfl] at H
        obtain rfl := Option.some.inj H
        go_wp2
        go_ret
        exact ⟨by first | rfl | (simp [errW_none, errW_some] <;> rfl) | (simp [*, errW_none, errW_some] <;> rfl), by repeat (first | (with_reducible first | exact HB.out | apply below_alloc | apply pw_below_drewN | apply below_drew1 | refine below_set ?_ GE285.out) | exact HB.out)⟩
      · replace c34 := Bool.eq_false_iff.mpr c34
        subst c34
        rw [if_neg (show ¬ (false = true) by decide)] at H
        have H' := Aside0.mk H
        clear H
        go_wp2
        go_loopg [9, 10] kj8 (fun kq v9 v10 w' => ∃ (x9_2 : Int) (x10_2 : Int), v9 = .int .i64 x9_2 ∧ v10 = .int .i64 x10_2 ∧ Aside0 (abugidalaw24_DiffPieces.l0 kq t286 t287 t288 t293 t298 x9_2 x10_2 = some r) ∧ Aside0 (kq ≤ kj8) ∧ Aside0 (Kd.R (Kd.int .i64) 3 w' w.heap.size (fun _ => True) v294 t293) ∧ Aside0 (Kd.R Kd.string 9 w' w.heap.size (fun _ => True) v299 t298) ∧ Aside0 (w'.heap[gb285]? = some (.cells #[.string a0_0, (.slice A0_1 l0_1.length c0_1)] 24 (0, 0))) ∧ Aside0 (Below w.heap.size w w'))
        case atStart => exact ⟨(0), (0), (by first | rfl | (simp; done) | (simp [*]; done)), (by first | rfl | (simp; done) | (simp [*]; done)), H', ⟨Nat.le_refl _⟩, ⟨by (with_reducible repeat (first | apply Kd.R_alloc | apply Kd.R_drewN | apply Kd.R_drew)); exact HO_7.out⟩, ⟨by (with_reducible repeat (first | apply Kd.R_alloc | apply Kd.R_drewN | apply Kd.R_drew)); exact HO_8.out⟩, ⟨by (with_reducible repeat (first | refine blk_drewN ?_ _ | refine blk_drew ?_ | refine blk_alloc ?_ _)); exact BK285.out⟩, ⟨by repeat (first | (with_reducible first | exact HB.out | apply below_alloc | apply pw_below_drewN | apply below_drew1 | refine below_set ?_ GE285.out) | exact HB.out)⟩⟩
        case round =>
          clear H'
          try clear c1
          try clear c2
          try clear p2
          try clear c3
          try clear p6
          try clear c7
          try clear c10
          try clear c12
          try clear c14
          try clear c15
          try clear c19
          try clear c20
          try clear c21
          try clear c22
          try clear c23
          try clear c23b0
          try clear c23b1
          try clear c24
          try clear c24b0
          try clear c24b1
          try clear c34
          try clear p2
          try clear p6
          obtain ⟨x9_2, x10_2, rfl, rfl, HA, HK2, HO_7, HO_8, BK285, HB⟩ := hrel
          cases gk with
          | zero => exact absurd HA.out (by simp [abugidalaw24_DiffPieces.l0])
          | succ k2 =>
            have H := HA.out
            clear HA
            simp only [abugidalaw24_DiffPieces.l0] at H
            by_cases c35 : x10_2 < (t298.length : Int)
            · rw [if_pos c35] at H
              have c35b0 : decide (x10_2 < (t298.length : Int)) = true := decide_eq_true c35
              clear c35
              have H' := Aside0.mk H
              clear H
              obtain ⟨Ao36, co36, eo36⟩ := Kd.R_slice HO_8.out
              subst eo36
              go_wp2
              go_loopg [11] k2 (fun kq v11 w' => ∃ (x11_3 : Int), v11 = .int .i64 x11_3 ∧ Aside0 (abugidalaw24_DiffPieces.l1 kq t286 t287 t288 t293 t298 x9_2 x10_2 x11_3 = some r) ∧ Aside0 (kq ≤ k2) ∧ Aside0 (Kd.R (Kd.int .i64) 3 w' w.heap.size (fun _ => True) v294 t293) ∧ Aside0 (Kd.R Kd.string 9 w' w.heap.size (fun _ => True) (.slice Ao36 t298.length co36) t298) ∧ Aside0 (w'.heap[gb285]? = some (.cells #[.string a0_0, (.slice A0_1 l0_1.length c0_1)] 24 (0, 0))) ∧ Aside0 (Below w.heap.size w w'))
              case atStart => exact ⟨(0), (by first | rfl | (simp; done) | (simp [*]; done)), H', ⟨Nat.le_refl _⟩, ⟨by (with_reducible repeat (first | apply Kd.R_alloc | apply Kd.R_drewN | apply Kd.R_drew)); exact HO_7.out⟩, ⟨by (with_reducible repeat (first | apply Kd.R_alloc | apply Kd.R_drewN | apply Kd.R_drew)); exact HO_8.out⟩, ⟨by (with_reducible repeat (first | refine blk_drewN ?_ _ | refine blk_drew ?_ | refine blk_alloc ?_ _)); exact BK285.out⟩, ⟨by repeat (first | (with_reducible first | exact HB.out | apply below_alloc | apply pw_below_drewN | apply below_drew1 | refine below_set ?_ GE285.out) | exact HB.out)⟩⟩
              case round =>
                clear H'
                try clear c1
                try clear c2
                try clear p2
                try clear c3
                try clear p6
                try clear c7
                try clear c10
                try clear c12
                try clear c14
                try clear c15
                try clear c19
                try clear c20
                try clear c21
                try clear c22
                try clear c23
                try clear c23b0
                try clear c23b1
                try clear c24
                try clear c24b0
                try clear c24b1
                try clear c34
                try clear c35
                try clear c35b0
                try clear p2
                try clear p6
                obtain ⟨x11_3, rfl, HA, HK3, HO_7, HO_8, BK285, HB⟩ := hrel
                cases gk with
                | zero => exact absurd HA.out (by simp [abugidalaw24_DiffPieces.l1])
                | succ k3 =>
                  have H := HA.out
                  clear HA
                  simp only [abugidalaw24_DiffPieces.l1] at H
                  have HC37 := Aside0.mk H
                  clear H
                  go_upto_region 12 with (fail)
                  go_cut [70] (fun v70 wc => ∃ (kq : Nat) (x70_36 : Bool), v70 = .bool x70_36 ∧ Aside0 (abugidalaw24_DiffPieces.j3 kq t286 t287 t288 t293 t298 x9_2 x10_2 x11_3 x70_36 = some r) ∧ Aside0 (kq ≤ k3) ∧ Aside0 (Kd.R (Kd.int .i64) 3 wc w.heap.size (fun _ => True) v294 t293) ∧ Aside0 (Kd.R Kd.string 9 wc w.heap.size (fun _ => True) (.slice Ao36 t298.length co36) t298) ∧ Aside0 (wc.heap[gb285]? = some (.cells #[.string a0_0, (.slice A0_1 l0_1.length c0_1)] 24 (0, 0))) ∧ Aside0 (Below w.heap.size w wc))
                  case first =>
                    have H := HC37.out
                    clear HC37
                    by_cases c38 : 0 ≤ x10_2
                    · rw [if_pos c38] at H
                      have c38b0 : decide (0 ≤ x10_2) = true := decide_eq_true c38
                      clear c38
                      (first | rw [c38b0] | (simp only [i64_w, i32_w]; rw [c38b0]) | skip)
                      by_cases c39 : x10_2 < (t298.length : Int)
                      · rw [if_pos c39] at H
                        have c39b0 : decide (x10_2 < (t298.length : Int)) = true := decide_eq_true c39
                        clear c39
                        by_cases c40 : x11_3 < ((rdOf ByteArray.empty t298 x10_2).size : Int)
                        · rw [if_pos c40] at H
                          have c40b0 : decide (x11_3 < ((rdOf ByteArray.empty t298 x10_2).size : Int)) = true := decide_eq_true c40
                          clear c40
                          have H' := Aside0.mk H
                          clear H
                          have p309 : 0 ≤ (x10_2 : Int) := of_decide_eq_true (by first | (with_reducible assumption) | assumption)
                          have q309 : x10_2 < (t298.length : Int) := of_decide_eq_true (by first | (with_reducible assumption) | assumption)
                          obtain ⟨ad309, e309, hx309_0⟩ := Kd.at_string (Kd.R_reads' HO_8.out).2.2 x10_2 p309 q309
                          cases e309
                          replace p309 := eq_true p309
                          replace q309 := eq_true q309
                          go_wp2
                          go_meet
                          case rel => exact ⟨_, (decide ((wrap64 ((wrap64 (x9_2 + x11_3)) + 4)) ≤ (t288.size : Int))), (by first | rfl | (simp; done) | (simp [*]; done)), H', ⟨by have := HJ8.out; have := HK2.out; have := HK3.out; first | omega | exact Nat.le_refl _⟩, ⟨by (with_reducible repeat (first | apply Kd.R_alloc | apply Kd.R_drewN | apply Kd.R_drew)); exact HO_7.out⟩, ⟨by (with_reducible repeat (first | apply Kd.R_alloc | apply Kd.R_drewN | apply Kd.R_drew)); exact HO_8.out⟩, ⟨by (with_reducible repeat (first | refine blk_drewN ?_ _ | refine blk_drew ?_ | refine blk_alloc ?_ _)); exact BK285.out⟩, ⟨by repeat (first | (with_reducible first | exact HB.out | apply below_alloc | apply pw_below_drewN | apply below_drew1 | refine below_set ?_ GE285.out) | exact HB.out)⟩⟩
                        · rw [if_neg c40] at H
                          have c40b0 : decide (x11_3 < ((rdOf ByteArray.empty t298 x10_2).size : Int)) = false := decide_eq_false c40
                          clear c40
                          have H' := Aside0.mk H
                          clear H
                          have p309 : 0 ≤ (x10_2 : Int) := of_decide_eq_true (by first | (with_reducible assumption) | assumption)
                          have q309 : x10_2 < (t298.length : Int) := of_decide_eq_true (by first | (with_reducible assumption) | assumption)
                          obtain ⟨ad309, e309, hx309_0⟩ := Kd.at_string (Kd.R_reads' HO_8.out).2.2 x10_2 p309 q309
                          cases e309
                          replace p309 := eq_true p309
                          replace q309 := eq_true q309
                          go_wp2
                          go_meet
                          case rel => exact ⟨_, (false), (by first | rfl | (simp; done) | (simp [*]; done)), H', ⟨by have := HJ8.out; have := HK2.out; have := HK3.out; first | omega | exact Nat.le_refl _⟩, ⟨by (with_reducible repeat (first | apply Kd.R_alloc | apply Kd.R_drewN | apply Kd.R_drew)); exact HO_7.out⟩, ⟨by (with_reducible repeat (first | apply Kd.R_alloc | apply Kd.R_drewN | apply Kd.R_drew)); exact HO_8.out⟩, ⟨by (with_reducible repeat (first | refine blk_drewN ?_ _ | refine blk_drew ?_ | refine blk_alloc ?_ _)); exact BK285.out⟩, ⟨by repeat (first | (with_reducible first | exact HB.out | apply below_alloc | apply pw_below_drewN | apply below_drew1 | refine below_set ?_ GE285.out) | exact HB.out)⟩⟩
                      · rw [if_neg c39] at H
                        exact absurd H (by simp)
                    · rw [if_neg c38] at H
                      exact absurd H (by simp)
                  case rest =>
                    clear HC37
                    try clear c1
                    try clear c2
                    try clear p2
                    try clear c3
                    try clear p3
                    try clear q3
                    try clear hx3
                    try clear c4
                    try clear p6
                    try clear c7
                    try clear c10
                    try clear c12
                    try clear c14
                    try clear c15
                    try clear c19
                    try clear c20
                    try clear c21
                    try clear c22
                    try clear c23
                    try clear c23b0
                    try clear c23b1
                    try clear c24
                    try clear c24b0
                    try clear c24b1
                    try clear p30
                    try clear q30
                    try clear hx30
                    try clear c34
                    try clear c35
                    try clear c35b0
                    try clear c38
                    try clear c38b0
                    try clear c39
                    try clear c39b0
                    try clear c40
                    try clear c40b0
                    try clear hx309_0
                    try clear p2
                    try clear p309
                    try clear p6
                    try clear q309
                    obtain ⟨kq, x70_36, rfl, HA, HJ36, HO_7, HO_8, BK285, HB⟩ := hcut
                    cases kq with
                    | zero => exact absurd HA.out (by simp [abugidalaw24_DiffPieces.j3])
                    | succ kj36 =>
                      have H := HA.out
                      clear HA
                      simp only [abugidalaw24_DiffPieces.j3] at H
                      by_cases c41 : x70_36 = true
                      · subst c41
                        rw [if_pos rfl] at H
                        obtain ⟨ji42, hji42⟩ : ∃ j_ : Int, (wrap64 (x9_2 + x11_3)) = j_ := ⟨_, rfl⟩
                        replace H : (if 0 ≤ (ji42) then (if (ji42) ≤ (wrap64 ((ji42) + 4)) then (if (wrap64 ((ji42) + 4)) ≤ (t288.size : Int) then ((abugidalaw24_find.f kj36 t287 (t288.extract ((ji42) : Int).toNat ((wrap64 ((ji42) + 4)) : Int).toNat)).bind fun t310 => (if t310 ≥ 0 then (some false) else (abugidalaw24_DiffPieces.l1 kj36 t286 t287 t288 t293 t298 x9_2 x10_2 (wrap64 (x11_3 + 1))))) else (none)) else (none)) else (none)) = some r := by first | (rw [hji42] at H; exact H) | (simp only [hji42] at H ⊢; exact H)
                        have hji42w : (IntKind.i64.wrap (x9_2 + x11_3)) = ji42 := (i64_w _).trans hji42
                        by_cases c43 : 0 ≤ (ji42)
                        · rw [if_pos c43] at H
                          have c43b0 := eq_true c43
                          have c43b1 : decide (0 ≤ (ji42)) = true := decide_eq_true c43
                          clear c43
                          by_cases c44 : (ji42) ≤ (wrap64 ((ji42) + 4))
                          · rw [if_pos c44] at H
                            have c44b0 := eq_true c44
                            have c44b1 : decide ((ji42) ≤ (wrap64 ((ji42) + 4))) = true := decide_eq_true c44
                            by_cases c45 : (wrap64 ((ji42) + 4)) ≤ (t288.size : Int)
                            · rw [if_pos c45] at H
                              have c45b0 := eq_true c45
                              have c45b1 : decide ((wrap64 ((ji42) + 4)) ≤ (t288.size : Int)) = true := decide_eq_true c45
                              replace H := Option.bind_eq_some_iff.mp H
                              obtain ⟨t310, A460, H⟩ := H
                              try dsimp only at H
                              have A46 := Aside0.mk A460
                              clear A460
                              by_cases c47 : t310 ≥ 0
                              · rw [if_pos c47] at H
                                have c47b0 : decide (0 ≤ t310) = true := decide_eq_true c47
                                clear c47
                                obtain rfl := Option.some.inj H
                                go_wp2_with (first | ((with_reducible refine gate_callee (f := 24) rfl ?_); refine goesL_ (some 83) rfl rfl Try.func24 (by kernel_rfl) rfl #[.string t287, .string (t288.extract ((ji42) : Int).toNat ((wrap64 ((ji42) + 4)) : Int).toNat)] rfl (by (try simp only [List.map_toArray, List.map_cons, List.map_nil]); first | done | (simp only [hji42]; rfl) | rfl | (simp only [List.length_drop, List.length_take]; rfl)) ?_; (with_reducible refine (abugidalaw24_find.calls kj36 t287 (t288.extract ((ji42) : Int).toNat ((wrap64 ((ji42) + 4)) : Int).toNat) t310 _ A46.out).mono ?_); rintro e w' ⟨rfl, ⟨nd, rfl⟩⟩; refine ⟨_, rfl, ?_⟩))
                                go_ret
                                exact ⟨by first | rfl | (simp [errW_none, errW_some] <;> rfl) | (simp only [← hji42]; first | rfl | (simp [errW_none, errW_some] <;> rfl)) | (simp [*, errW_none, errW_some] <;> rfl), by repeat (first | (with_reducible first | exact HB.out | apply below_alloc | apply pw_below_drewN | apply below_drew1 | refine below_set ?_ GE285.out) | exact HB.out)⟩
                              · rw [if_neg c47] at H
                                have c47b0 : decide (0 ≤ t310) = false := decide_eq_false c47
                                clear c47
                                have H' := Aside0.mk H
                                clear H
                                go_wp2_with (first | ((with_reducible refine gate_callee (f := 24) rfl ?_); refine goesL_ (some 83) rfl rfl Try.func24 (by kernel_rfl) rfl #[.string t287, .string (t288.extract ((ji42) : Int).toNat ((wrap64 ((ji42) + 4)) : Int).toNat)] rfl (by (try simp only [List.map_toArray, List.map_cons, List.map_nil]); first | done | (simp only [hji42]; rfl) | rfl | (simp only [List.length_drop, List.length_take]; rfl)) ?_; (with_reducible refine (abugidalaw24_find.calls kj36 t287 (t288.extract ((ji42) : Int).toNat ((wrap64 ((ji42) + 4)) : Int).toNat) t310 _ A46.out).mono ?_); rintro e w' ⟨rfl, ⟨nd, rfl⟩⟩; refine ⟨_, rfl, ?_⟩))
                                go_roundg kj36
                                case measure => have := HJ8.out; have := HK2.out; have := HK3.out; have := HJ36.out; omega
                                case rel => exact ⟨(wrap64 (x11_3 + 1)), (by first | rfl | (simp; done) | (simp [*]; done)), H', ⟨by have := HJ8.out; have := HK2.out; have := HK3.out; have := HJ36.out; omega⟩, ⟨by (with_reducible repeat (first | apply Kd.R_alloc | apply Kd.R_drewN | apply Kd.R_drew)); exact HO_7.out⟩, ⟨by (with_reducible repeat (first | apply Kd.R_alloc | apply Kd.R_drewN | apply Kd.R_drew)); exact HO_8.out⟩, ⟨by (with_reducible repeat (first | refine blk_drewN ?_ _ | refine blk_drew ?_ | refine blk_alloc ?_ _)); exact BK285.out⟩, ⟨by repeat (first | (with_reducible first | exact HB.out | apply below_alloc | apply pw_below_drewN | apply below_drew1 | refine below_set ?_ GE285.out) | exact HB.out)⟩⟩
                            · rw [if_neg c45] at H
                              exact absurd H (by simp)
                          · rw [if_neg c44] at H
                            exact absurd H (by simp)
                        · rw [if_neg c43] at H
                          exact absurd H (by simp)
                      · replace c41 := Bool.eq_false_iff.mpr c41
                        subst c41
                        rw [if_neg (show ¬ (false = true) by decide)] at H
                        by_cases c48 : 0 ≤ x10_2
                        · rw [if_pos c48] at H
                          have c48b0 : decide (0 ≤ x10_2) = true := decide_eq_true c48
                          clear c48
                          by_cases c49 : x10_2 < (t298.length : Int)
                          · rw [if_pos c49] at H
                            have c49b0 : decide (x10_2 < (t298.length : Int)) = true := decide_eq_true c49
                            clear c49
                            by_cases c50 : (wrap64 ((wrap64 (2 * x10_2)) + 1)) ≥ (t293.length : Int)
                            · rw [if_pos c50] at H
                              have c50b0 : decide ((t293.length : Int) ≤ (wrap64 ((wrap64 (2 * x10_2)) + 1))) = true := decide_eq_true c50
                              clear c50
                              by_cases c51 : t286 = true
                              · subst c51
                                rw [if_pos rfl] at H
                                obtain rfl := Option.some.inj H
                                have p311 : 0 ≤ (x10_2 : Int) := of_decide_eq_true (by first | (with_reducible assumption) | assumption)
                                have q311 : x10_2 < (t298.length : Int) := of_decide_eq_true (by first | (with_reducible assumption) | assumption)
                                obtain ⟨ad311, e311, hx311_0⟩ := Kd.at_string (Kd.R_reads' HO_8.out).2.2 x10_2 p311 q311
                                cases e311
                                replace p311 := eq_true p311
                                replace q311 := eq_true q311
                                obtain ⟨Ao52, co52, eo52⟩ := Kd.R_slice HO_7.out
                                subst eo52
                                go_wp2
                                go_ret
                                exact ⟨by first | rfl | (simp [errW_none, errW_some] <;> rfl) | (simp [*, errW_none, errW_some] <;> rfl), by repeat (first | (with_reducible first | exact HB.out | apply below_alloc | apply pw_below_drewN | apply below_drew1 | refine below_set ?_ GE285.out) | exact HB.out)⟩
                              · replace c51 := Bool.eq_false_iff.mpr c51
                                subst c51
                                rw [if_neg (show ¬ (false = true) by decide)] at H
                                obtain rfl := Option.some.inj H
                                have p311 : 0 ≤ (x10_2 : Int) := of_decide_eq_true (by first | (with_reducible assumption) | assumption)
                                have q311 : x10_2 < (t298.length : Int) := of_decide_eq_true (by first | (with_reducible assumption) | assumption)
                                obtain ⟨ad311, e311, hx311_0⟩ := Kd.at_string (Kd.R_reads' HO_8.out).2.2 x10_2 p311 q311
                                cases e311
                                replace p311 := eq_true p311
                                replace q311 := eq_true q311
                                obtain ⟨Ao53, co53, eo53⟩ := Kd.R_slice HO_7.out
                                subst eo53
                                go_wp2
                                go_ret
                                exact ⟨by first | rfl | (simp [errW_none, errW_some] <;> rfl) | (simp [*, errW_none, errW_some] <;> rfl), by repeat (first | (with_reducible first | exact HB.out | apply below_alloc | apply pw_below_drewN | apply below_drew1 | refine below_set ?_ GE285.out) | exact HB.out)⟩
                            · rw [if_neg c50] at H
                              have c50b0 : decide ((t293.length : Int) ≤ (wrap64 ((wrap64 (2 * x10_2)) + 1))) = false := decide_eq_false c50
                              clear c50
                              obtain ⟨ji54, hji54⟩ : ∃ j_ : Int, (wrap64 (2 * x10_2)) = j_ := ⟨_, rfl⟩
                              replace H : (if 0 ≤ (ji54) then (if (ji54) < (t293.length : Int) then (if 0 ≤ (wrap64 ((ji54) + 1)) then (if (wrap64 ((ji54) + 1)) < (t293.length : Int) then (if (rd t293 (wrap64 ((ji54) + 1))) < 4 then (abugidalaw24_DiffPieces.j4 kj36 t286 t287 t288 t293 t298 (wrap64 (x9_2 + ((rdOf ByteArray.empty t298 x10_2).size : Int))) x10_2 (rd t293 (wrap64 ((ji54) + 1))) true) else (if (rd t293 (ji54)) < 0 then (abugidalaw24_DiffPieces.j4 kj36 t286 t287 t288 t293 t298 (wrap64 (x9_2 + ((rdOf ByteArray.empty t298 x10_2).size : Int))) x10_2 (rd t293 (wrap64 ((ji54) + 1))) true) else (if (wrap64 ((rd t293 (ji54)) + (rd t293 (wrap64 ((ji54) + 1))))) > (t287.size : Int) then (abugidalaw24_DiffPieces.j4 kj36 t286 t287 t288 t293 t298 (wrap64 (x9_2 + ((rdOf ByteArray.empty t298 x10_2).size : Int))) x10_2 (rd t293 (wrap64 ((ji54) + 1))) true) else (if (wrap64 ((wrap64 (x9_2 + ((rdOf ByteArray.empty t298 x10_2).size : Int))) + (rd t293 (wrap64 ((ji54) + 1))))) > (t288.size : Int) then (abugidalaw24_DiffPieces.j4 kj36 t286 t287 t288 t293 t298 (wrap64 (x9_2 + ((rdOf ByteArray.empty t298 x10_2).size : Int))) x10_2 (rd t293 (wrap64 ((ji54) + 1))) true) else (if 0 ≤ (wrap64 (x9_2 + ((rdOf ByteArray.empty t298 x10_2).size : Int))) then (if (wrap64 (x9_2 + ((rdOf ByteArray.empty t298 x10_2).size : Int))) ≤ (wrap64 ((wrap64 (x9_2 + ((rdOf ByteArray.empty t298 x10_2).size : Int))) + (rd t293 (wrap64 ((ji54) + 1))))) then (if (wrap64 ((wrap64 (x9_2 + ((rdOf ByteArray.empty t298 x10_2).size : Int))) + (rd t293 (wrap64 ((ji54) + 1))))) ≤ (t288.size : Int) then ((abugidalaw24_find.f kj36 t287 (t288.extract ((wrap64 (x9_2 + ((rdOf ByteArray.empty t298 x10_2).size : Int))) : Int).toNat ((wrap64 ((wrap64 (x9_2 + ((rdOf ByteArray.empty t298 x10_2).size : Int))) + (rd t293 (wrap64 ((ji54) + 1))))) : Int).toNat)).bind fun t314 => (abugidalaw24_DiffPieces.j4 kj36 t286 t287 t288 t293 t298 (wrap64 (x9_2 + ((rdOf ByteArray.empty t298 x10_2).size : Int))) x10_2 (rd t293 (wrap64 ((ji54) + 1))) (t314 != (rd t293 (ji54))))) else (none)) else (none)) else (none)))))) else (none)) else (none)) else (none)) else (none)) = some r := by first | (rw [hji54] at H; exact H) | (simp only [hji54] at H ⊢; exact H)
                              try rw [hji54] at c50b0
                              (try rw [hji54] at c50b0)
                              have hji54w : (IntKind.i64.wrap (2 * x10_2)) = ji54 := (i64_w _).trans hji54
                              by_cases c55 : 0 ≤ (ji54)
                              · rw [if_pos c55] at H
                                have c55b0 : decide (0 ≤ (ji54)) = true := decide_eq_true c55
                                clear c55
                                by_cases c56 : (ji54) < (t293.length : Int)
                                · rw [if_pos c56] at H
                                  have c56b0 : decide ((ji54) < (t293.length : Int)) = true := decide_eq_true c56
                                  clear c56
                                  obtain ⟨ji57, hji57⟩ : ∃ j_ : Int, (wrap64 ((ji54) + 1)) = j_ := ⟨_, rfl⟩
                                  replace H : (if 0 ≤ (ji57) then (if (ji57) < (t293.length : Int) then (if (rd t293 (ji57)) < 4 then (abugidalaw24_DiffPieces.j4 kj36 t286 t287 t288 t293 t298 (wrap64 (x9_2 + ((rdOf ByteArray.empty t298 x10_2).size : Int))) x10_2 (rd t293 (ji57)) true) else (if (rd t293 (ji54)) < 0 then (abugidalaw24_DiffPieces.j4 kj36 t286 t287 t288 t293 t298 (wrap64 (x9_2 + ((rdOf ByteArray.empty t298 x10_2).size : Int))) x10_2 (rd t293 (ji57)) true) else (if (wrap64 ((rd t293 (ji54)) + (rd t293 (ji57)))) > (t287.size : Int) then (abugidalaw24_DiffPieces.j4 kj36 t286 t287 t288 t293 t298 (wrap64 (x9_2 + ((rdOf ByteArray.empty t298 x10_2).size : Int))) x10_2 (rd t293 (ji57)) true) else (if (wrap64 ((wrap64 (x9_2 + ((rdOf ByteArray.empty t298 x10_2).size : Int))) + (rd t293 (ji57)))) > (t288.size : Int) then (abugidalaw24_DiffPieces.j4 kj36 t286 t287 t288 t293 t298 (wrap64 (x9_2 + ((rdOf ByteArray.empty t298 x10_2).size : Int))) x10_2 (rd t293 (ji57)) true) else (if 0 ≤ (wrap64 (x9_2 + ((rdOf ByteArray.empty t298 x10_2).size : Int))) then (if (wrap64 (x9_2 + ((rdOf ByteArray.empty t298 x10_2).size : Int))) ≤ (wrap64 ((wrap64 (x9_2 + ((rdOf ByteArray.empty t298 x10_2).size : Int))) + (rd t293 (ji57)))) then (if (wrap64 ((wrap64 (x9_2 + ((rdOf ByteArray.empty t298 x10_2).size : Int))) + (rd t293 (ji57)))) ≤ (t288.size : Int) then ((abugidalaw24_find.f kj36 t287 (t288.extract ((wrap64 (x9_2 + ((rdOf ByteArray.empty t298 x10_2).size : Int))) : Int).toNat ((wrap64 ((wrap64 (x9_2 + ((rdOf ByteArray.empty t298 x10_2).size : Int))) + (rd t293 (ji57)))) : Int).toNat)).bind fun t314 => (abugidalaw24_DiffPieces.j4 kj36 t286 t287 t288 t293 t298 (wrap64 (x9_2 + ((rdOf ByteArray.empty t298 x10_2).size : Int))) x10_2 (rd t293 (ji57)) (t314 != (rd t293 (ji54))))) else (none)) else (none)) else (none)))))) else (none)) else (none)) = some r := by first | (rw [hji57] at H; exact H) | (simp only [hji57] at H ⊢; exact H)
                                  try rw [hji57] at c50b0
                                  have hji57w : (IntKind.i64.wrap ((ji54) + 1)) = ji57 := (i64_w _).trans hji57
                                  by_cases c58 : 0 ≤ (ji57)
                                  · rw [if_pos c58] at H
                                    have c58b0 : decide (0 ≤ (ji57)) = true := decide_eq_true c58
                                    clear c58
                                    by_cases c59 : (ji57) < (t293.length : Int)
                                    · rw [if_pos c59] at H
                                      have c59b0 : decide ((ji57) < (t293.length : Int)) = true := decide_eq_true c59
                                      clear c59
                                      have HC60 := Aside0.mk H
                                      clear H
                                      have p311 : 0 ≤ (x10_2 : Int) := of_decide_eq_true (by first | (with_reducible assumption) | assumption)
                                      have q311 : x10_2 < (t298.length : Int) := of_decide_eq_true (by first | (with_reducible assumption) | assumption)
                                      obtain ⟨ad311, e311, hx311_0⟩ := Kd.at_string (Kd.R_reads' HO_8.out).2.2 x10_2 p311 q311
                                      cases e311
                                      replace p311 := eq_true p311
                                      replace q311 := eq_true q311
                                      obtain ⟨Ao61, co61, eo61⟩ := Kd.R_slice HO_7.out
                                      subst eo61
                                      try go_wp2
                                      have n0_ := Aside0.mk (Kd.R_drew HO_7.out)
                                      have n1_ := Aside0.mk (Kd.R_drew HO_8.out)
                                      have n2_ := Aside0.mk (blk_drew BK285.out)
                                      have n3_ := Aside0.mk (below_drew1 HB.out)
                                      clear HO_7
                                      clear HO_8
                                      clear BK285
                                      clear HB
                                      have HO_7 := n0_
                                      have HO_8 := n1_
                                      have BK285 := n2_
                                      have HB := n3_
                                      clear n0_ n1_ n2_ n3_
                                      have p312 : 0 ≤ ((ji54) : Int) := of_decide_eq_true (by first | (with_reducible assumption) | assumption)
                                      have q312 : (ji54) < (t293.length : Int) := of_decide_eq_true (by first | (with_reducible assumption) | assumption)
                                      obtain ⟨ad312, e312, hx312_0⟩ := Kd.at_int (Kd.R_reads' HO_7.out).2.2 (ji54) p312 q312
                                      cases e312
                                      replace p312 := eq_true p312
                                      replace q312 := eq_true q312
                                      have p313 : 0 ≤ ((ji57) : Int) := of_decide_eq_true (by first | (with_reducible assumption) | assumption)
                                      have q313 : (ji57) < (t293.length : Int) := of_decide_eq_true (by first | (with_reducible assumption) | assumption)
                                      obtain ⟨ad313, e313, hx313_0⟩ := Kd.at_int (Kd.R_reads' HO_7.out).2.2 (ji57) p313 q313
                                      obtain rfl : ad312 = ad313 := (by injection e313)
                                      replace p313 := eq_true p313
                                      replace q313 := eq_true q313
                                      refine start_ (n := 13) (S := fun w' => w'.cell? (ad312.add ((ji54)).toNat) = some (.int .i64 (rd t293 (ji54))) ∧ w'.cell? (ad312.add ((ji57)).toNat) = some (.int .i64 (rd t293 (ji57)))) (ds := []) #[false, false, false, false, false, false, false, false, false, false, false, false, false] (by kernel_rfl) rfl rfl ⟨hx312_0, hx313_0⟩ (fun hHeld => ?_); refine with_tabW abugidalaw24_DiffPieces.tab18 abugidalaw24_DiffPieces.bits18 (fun HT_ HW_ => ?_)
                                      generalize wc.drew = w62 at HO_7 HO_8 BK285 HB hx312_0 hx313_0 hHeld ⊢
                                      refine pure_ (i := 0) (N := some 98) (v := ?_) (a' := ?_) #[true, false, false, false, false, false, false, false, false, false, false, false, false] rfl rfl (any_of HT_.out (by kernel_rfl)) (fun _ _ _ h => h) (Or.inl ⟨by rfl, ?_⟩) ?_ ?_
                                      rotate_left
                                      · intro w'
                                        go_simp
                                        with_reducible rfl
                                      rotate_left
                                      · simp only [Act.put, List.setIfInBounds_toArray, List.set_cons_zero, List.set_cons_succ, i64_w, i32_w]
                                        rfl
                                      refine pure_ (i := 1) (N := some 99) (v := ?_) (a' := ?_) #[true, true, false, false, false, false, false, false, false, false, false, false, false] rfl rfl (any_of HT_.out (by kernel_rfl)) (fun _ _ _ h => h) (Or.inl ⟨by rfl, ?_⟩) ?_ ?_
                                      rotate_left
                                      · intro w'
                                        go_simp
                                        with_reducible rfl
                                      rotate_left
                                      · simp only [Act.put, List.setIfInBounds_toArray, List.set_cons_zero, List.set_cons_succ, i64_w, i32_w]
                                        rfl
                                      refine pure_ (i := 2) (N := some 100) (v := ?_) (a' := ?_) #[true, true, true, false, false, false, false, false, false, false, false, false, false] rfl rfl (any_of HT_.out (by kernel_rfl)) (fun _ _ _ h => h) (Or.inl ⟨by rfl, ?_⟩) ?_ ?_
                                      rotate_left
                                      · intro w'
                                        go_simp
                                        with_reducible rfl
                                      rotate_left
                                      · simp only [Act.put, List.setIfInBounds_toArray, List.set_cons_zero, List.set_cons_succ, i64_w, i32_w]
                                        rfl
                                      refine pure_ (i := 3) (N := some 101) (v := ?_) (a' := ?_) #[true, true, true, true, false, false, false, false, false, false, false, false, false] rfl rfl (any_of HT_.out (by kernel_rfl)) (fun _ _ _ h => h) (Or.inl ⟨by rfl, ?_⟩) ?_ ?_
                                      rotate_left
                                      · intro w'
                                        go_simp
                                        with_reducible rfl
                                      rotate_left
                                      · simp only [Act.put, List.setIfInBounds_toArray, List.set_cons_zero, List.set_cons_succ, i64_w, i32_w]
                                        rfl
                                      refine pure_ (i := 5) (N := some 103) (v := ?_) (a' := ?_) #[true, true, true, true, false, true, false, false, false, false, false, false, false] rfl rfl (any_of HT_.out (by kernel_rfl)) (fun _ _ _ h => h) (Or.inl ⟨by rfl, ?_⟩) ?_ ?_
                                      rotate_left
                                      · intro w'
                                        go_simp
                                        with_reducible rfl
                                      rotate_left
                                      · simp only [Act.put, List.setIfInBounds_toArray, List.set_cons_zero, List.set_cons_succ, i64_w, i32_w]
                                        rfl
                                      refine pure_ (i := 6) (N := some 104) (v := ?_) (a' := ?_) #[true, true, true, true, false, true, true, false, false, false, false, false, false] rfl rfl (any_of HT_.out (by kernel_rfl)) (fun _ _ _ h => h) (Or.inl ⟨by rfl, ?_⟩) ?_ ?_
                                      rotate_left
                                      · intro w'
                                        go_simp
                                        with_reducible rfl
                                      rotate_left
                                      · simp only [Act.put, List.setIfInBounds_toArray, List.set_cons_zero, List.set_cons_succ, i64_w, i32_w]
                                        rfl
                                      refine pure_ (i := 7) (N := some 105) (v := ?_) (a' := ?_) #[true, true, true, true, false, true, true, true, false, false, false, false, false] rfl rfl (any_of HT_.out (by kernel_rfl)) (fun _ _ _ h => h) (Or.inl ⟨by rfl, ?_⟩) ?_ ?_
                                      rotate_left
                                      · intro w'
                                        go_simp
                                        with_reducible rfl
                                      rotate_left
                                      · simp only [Act.put, List.setIfInBounds_toArray, List.set_cons_zero, List.set_cons_succ, i64_w, i32_w]
                                        rfl
                                      refine pure_ (i := 8) (N := some 106) (v := ?_) (a' := ?_) #[true, true, true, true, false, true, true, true, true, false, false, false, false] rfl rfl (any_of HT_.out (by kernel_rfl)) (fun _ _ _ h => h) (Or.inl ⟨by rfl, ?_⟩) ?_ ?_
                                      rotate_left
                                      · intro w'
                                        go_simp
                                        with_reducible rfl
                                      rotate_left
                                      · simp only [Act.put, List.setIfInBounds_toArray, List.set_cons_zero, List.set_cons_succ, i64_w, i32_w]
                                        rfl
                                      refine pure_ (i := 9) (N := some 107) (v := ?_) (a' := ?_) #[true, true, true, true, false, true, true, true, true, true, false, false, false] rfl rfl (any_of HT_.out (by kernel_rfl)) (fun _ _ _ h => h) (Or.inl ⟨by rfl, ?_⟩) ?_ ?_
                                      rotate_left
                                      · intro w'
                                        go_simp
                                        with_reducible rfl
                                      rotate_left
                                      · simp only [Act.put, List.setIfInBounds_toArray, List.set_cons_zero, List.set_cons_succ, i64_w, i32_w]
                                        rfl
                                      refine take_ (i := 4) (N := some 102) (v := ?_) (a' := ?_) #[true, true, true, true, true, true, true, true, true, true, false, false, false] rfl rfl (take_ofW HT_.out HW_.out (by kernel_rfl)) (fun _ _ _ h => h) (Or.inl ⟨by rfl, ?_⟩) hHeld ?_ ?_
                                      rotate_left
                                      · rintro w' ⟨s0, s1⟩
                                        go_simp
                                        with_reducible rfl
                                      rotate_left
                                      · simp only [Act.put, List.setIfInBounds_toArray, List.set_cons_zero, List.set_cons_succ, i64_w, i32_w]
                                        rfl
                                      refine pure_ (i := 11) (N := some 12) (v := ?_) (a' := ?_) #[true, true, true, true, true, true, true, true, true, true, false, true, false] rfl rfl (any_of HT_.out (by kernel_rfl)) (fun _ _ _ h => h) (Or.inl ⟨by rfl, ?_⟩) ?_ ?_
                                      rotate_left
                                      · intro w'
                                        go_simp
                                        with_reducible rfl
                                      rotate_left
                                      · simp only [Act.put, List.setIfInBounds_toArray, List.set_cons_zero, List.set_cons_succ, i64_w, i32_w]
                                        rfl
                                      refine take_ (i := 10) (N := some 108) (v := ?_) (a' := ?_) #[true, true, true, true, true, true, true, true, true, true, true, true, false] rfl rfl (take_ofW HT_.out HW_.out (by kernel_rfl)) (fun _ _ _ h => h) (Or.inl ⟨by rfl, ?_⟩) hHeld ?_ ?_
                                      rotate_left
                                      · rintro w' ⟨s0, s1⟩
                                        go_simp
                                        with_reducible rfl
                                      rotate_left
                                      · simp only [Act.put, List.setIfInBounds_toArray, List.set_cons_zero, List.set_cons_succ, i64_w, i32_w]
                                        rfl
                                      refine pure_ (i := 12) (N := some 13) (v := ?_) (a' := ?_) #[true, true, true, true, true, true, true, true, true, true, true, true, true] rfl rfl (any_of HT_.out (by kernel_rfl)) (fun _ _ _ h => h) (Or.inl ⟨by rfl, ?_⟩) ?_ ?_
                                      rotate_left
                                      · intro w'
                                        go_simp
                                        with_reducible rfl
                                      rotate_left
                                      · simp only [Act.put, List.setIfInBounds_toArray, List.set_cons_zero, List.set_cons_succ, i64_w, i32_w]
                                        rfl
                                      refine done_ (done_of HT_.out (by kernel_rfl)) ?_
                                      go_upto_region 19 with (fail)
                                      go_cut [142] (fun v142 wc => ∃ (kq : Nat) (x142_59 : Bool), v142 = .bool x142_59 ∧ Aside0 (abugidalaw24_DiffPieces.j4 kq t286 t287 t288 t293 t298 (wrap64 (x9_2 + ((rdOf ByteArray.empty t298 x10_2).size : Int))) x10_2 (rd t293 (ji57)) x142_59 = some r) ∧ Aside0 (kq ≤ kj36) ∧ Aside0 (Kd.R (Kd.int .i64) 3 wc w.heap.size (fun _ => True) (.slice (some ad312) t293.length co61) t293) ∧ Aside0 (Kd.R Kd.string 9 wc w.heap.size (fun _ => True) (.slice (some ad311) t298.length co36) t298) ∧ Aside0 (wc.heap[gb285]? = some (.cells #[.string a0_0, (.slice A0_1 l0_1.length c0_1)] 24 (0, 0))) ∧ Aside0 (Below w.heap.size w wc))
                                      case first =>
                                        have H := HC60.out
                                        clear HC60
                                        by_cases c63 : (rd t293 (ji57)) < 4
                                        · rw [if_pos c63] at H
                                          have c63b0 : decide ((rd t293 (ji57)) < 4) = true := decide_eq_true c63
                                          clear c63
                                          (first | rw [c63b0] | (simp only [i64_w, i32_w]; rw [c63b0]) | skip)
                                          have H' := Aside0.mk H
                                          clear H
                                          go_wp2
                                          go_meet
                                          case rel => exact ⟨_, (true), (by first | rfl | (simp; done) | (simp [*]; done)), H', ⟨by have := HJ8.out; have := HK2.out; have := HK3.out; have := HJ36.out; first | omega | exact Nat.le_refl _⟩, ⟨by (with_reducible repeat (first | apply Kd.R_alloc | apply Kd.R_drewN | apply Kd.R_drew)); exact HO_7.out⟩, ⟨by (with_reducible repeat (first | apply Kd.R_alloc | apply Kd.R_drewN | apply Kd.R_drew)); exact HO_8.out⟩, ⟨by (with_reducible repeat (first | refine blk_drewN ?_ _ | refine blk_drew ?_ | refine blk_alloc ?_ _)); exact BK285.out⟩, ⟨by repeat (first | (with_reducible first | exact HB.out | apply below_alloc | apply pw_below_drewN | apply below_drew1 | refine below_set ?_ GE285.out) | exact HB.out)⟩⟩
                                        · rw [if_neg c63] at H
                                          have c63b0 : decide ((rd t293 (ji57)) < 4) = false := decide_eq_false c63
                                          clear c63
                                          (first | rw [c63b0] | (simp only [i64_w, i32_w]; rw [c63b0]) | skip)
                                          by_cases c64 : (rd t293 (ji54)) < 0
                                          · rw [if_pos c64] at H
                                            have c64b0 : decide ((rd t293 (ji54)) < 0) = true := decide_eq_true c64
                                            clear c64
                                            have H' := Aside0.mk H
                                            clear H
                                            go_wp2
                                            go_meet
                                            case rel => exact ⟨_, (true), (by first | rfl | (simp; done) | (simp [*]; done)), H', ⟨by have := HJ8.out; have := HK2.out; have := HK3.out; have := HJ36.out; first | omega | exact Nat.le_refl _⟩, ⟨by (with_reducible repeat (first | apply Kd.R_alloc | apply Kd.R_drewN | apply Kd.R_drew)); exact HO_7.out⟩, ⟨by (with_reducible repeat (first | apply Kd.R_alloc | apply Kd.R_drewN | apply Kd.R_drew)); exact HO_8.out⟩, ⟨by (with_reducible repeat (first | refine blk_drewN ?_ _ | refine blk_drew ?_ | refine blk_alloc ?_ _)); exact BK285.out⟩, ⟨by repeat (first | (with_reducible first | exact HB.out | apply below_alloc | apply pw_below_drewN | apply below_drew1 | refine below_set ?_ GE285.out) | exact HB.out)⟩⟩
                                          · rw [if_neg c64] at H
                                            have c64b0 : decide ((rd t293 (ji54)) < 0) = false := decide_eq_false c64
                                            clear c64
                                            by_cases c65 : (wrap64 ((rd t293 (ji54)) + (rd t293 (ji57)))) > (t287.size : Int)
                                            · rw [if_pos c65] at H
                                              have c65b0 : decide ((t287.size : Int) < (wrap64 ((rd t293 (ji54)) + (rd t293 (ji57))))) = true := decide_eq_true c65
                                              clear c65
                                              have H' := Aside0.mk H
                                              clear H
                                              go_wp2
                                              go_meet
                                              case rel => exact ⟨_, (true), (by first | rfl | (simp; done) | (simp [*]; done)), H', ⟨by have := HJ8.out; have := HK2.out; have := HK3.out; have := HJ36.out; first | omega | exact Nat.le_refl _⟩, ⟨by (with_reducible repeat (first | apply Kd.R_alloc | apply Kd.R_drewN | apply Kd.R_drew)); exact HO_7.out⟩, ⟨by (with_reducible repeat (first | apply Kd.R_alloc | apply Kd.R_drewN | apply Kd.R_drew)); exact HO_8.out⟩, ⟨by (with_reducible repeat (first | refine blk_drewN ?_ _ | refine blk_drew ?_ | refine blk_alloc ?_ _)); exact BK285.out⟩, ⟨by repeat (first | (with_reducible first | exact HB.out | apply below_alloc | apply pw_below_drewN | apply below_drew1 | refine below_set ?_ GE285.out) | exact HB.out)⟩⟩
                                            · rw [if_neg c65] at H
                                              have c65b0 : decide ((t287.size : Int) < (wrap64 ((rd t293 (ji54)) + (rd t293 (ji57))))) = false := decide_eq_false c65
                                              clear c65
                                              by_cases c66 : (wrap64 ((wrap64 (x9_2 + ((rdOf ByteArray.empty t298 x10_2).size : Int))) + (rd t293 (ji57)))) > (t288.size : Int)
                                              · rw [if_pos c66] at H
                                                have c66b0 : decide ((t288.size : Int) < (wrap64 ((wrap64 (x9_2 + ((rdOf ByteArray.empty t298 x10_2).size : Int))) + (rd t293 (ji57))))) = true := decide_eq_true c66
                                                clear c66
                                                have H' := Aside0.mk H
                                                clear H
                                                go_wp2
                                                go_meet
                                                case rel => exact ⟨_, (true), (by first | rfl | (simp; done) | (simp [*]; done)), H', ⟨by have := HJ8.out; have := HK2.out; have := HK3.out; have := HJ36.out; first | omega | exact Nat.le_refl _⟩, ⟨by (with_reducible repeat (first | apply Kd.R_alloc | apply Kd.R_drewN | apply Kd.R_drew)); exact HO_7.out⟩, ⟨by (with_reducible repeat (first | apply Kd.R_alloc | apply Kd.R_drewN | apply Kd.R_drew)); exact HO_8.out⟩, ⟨by (with_reducible repeat (first | refine blk_drewN ?_ _ | refine blk_drew ?_ | refine blk_alloc ?_ _)); exact BK285.out⟩, ⟨by repeat (first | (with_reducible first | exact HB.out | apply below_alloc | apply pw_below_drewN | apply below_drew1 | refine below_set ?_ GE285.out) | exact HB.out)⟩⟩
                                              · rw [if_neg c66] at H
                                                have c66b0 : decide ((t288.size : Int) < (wrap64 ((wrap64 (x9_2 + ((rdOf ByteArray.empty t298 x10_2).size : Int))) + (rd t293 (ji57))))) = false := decide_eq_false c66
                                                clear c66
                                                obtain ⟨ji67, hji67⟩ : ∃ j_ : Int, (wrap64 (x9_2 + ((rdOf ByteArray.empty t298 x10_2).size : Int))) = j_ := ⟨_, rfl⟩
                                                replace H : (if 0 ≤ (ji67) then (if (ji67) ≤ (wrap64 ((ji67) + (rd t293 (ji57)))) then (if (wrap64 ((ji67) + (rd t293 (ji57)))) ≤ (t288.size : Int) then ((abugidalaw24_find.f kj36 t287 (t288.extract ((ji67) : Int).toNat ((wrap64 ((ji67) + (rd t293 (ji57)))) : Int).toNat)).bind fun t314 => (abugidalaw24_DiffPieces.j4 kj36 t286 t287 t288 t293 t298 ji67 x10_2 (rd t293 (ji57)) (t314 != (rd t293 (ji54))))) else (none)) else (none)) else (none)) = some r := by first | (rw [hji67] at H; exact H) | (simp only [hji67] at H ⊢; exact H)
                                                try rw [hji67] at c50b0
                                                try rw [hji67] at c65b0
                                                try rw [hji67] at c66b0
                                                (try rw [hji67] at c66b0)
                                                have hji67w : (IntKind.i64.wrap (x9_2 + ((rdOf ByteArray.empty t298 x10_2).size : Int))) = ji67 := (i64_w _).trans hji67
                                                by_cases c68 : 0 ≤ (ji67)
                                                · rw [if_pos c68] at H
                                                  have c68b0 := eq_true c68
                                                  have c68b1 : decide (0 ≤ (ji67)) = true := decide_eq_true c68
                                                  clear c68
                                                  by_cases c69 : (ji67) ≤ (wrap64 ((ji67) + (rd t293 (ji57))))
                                                  · rw [if_pos c69] at H
                                                    have c69b0 := eq_true c69
                                                    have c69b1 : decide ((ji67) ≤ (wrap64 ((ji67) + (rd t293 (ji57))))) = true := decide_eq_true c69
                                                    by_cases c70 : (wrap64 ((ji67) + (rd t293 (ji57)))) ≤ (t288.size : Int)
                                                    · rw [if_pos c70] at H
                                                      have c70b0 := eq_true c70
                                                      have c70b1 : decide ((wrap64 ((ji67) + (rd t293 (ji57)))) ≤ (t288.size : Int)) = true := decide_eq_true c70
                                                      replace H := Option.bind_eq_some_iff.mp H
                                                      obtain ⟨t314, A710, H⟩ := H
                                                      try dsimp only at H
                                                      have A71 := Aside0.mk A710
                                                      clear A710
                                                      have H' := Aside0.mk H
                                                      clear H
                                                      go_wp2_with (first | (go_at_call 24; (with_reducible refine (abugidalaw24_find.calls kj36 t287 (t288.extract ((ji67) : Int).toNat ((wrap64 ((ji67) + (rd t293 (ji57)))) : Int).toNat) t314 _ A71.out).mono ?_); rintro e w' ⟨rfl, ⟨nd, rfl⟩⟩))
                                                      try subst hji67
                                                      go_meet
                                                      case rel => exact ⟨_, ((t314 != (rd t293 (ji54)))), (by first | rfl | (simp; done) | (simp only [← hji54] <;> (first | rfl | simp)) | (simp [*]; done)), H', ⟨by have := HJ8.out; have := HK2.out; have := HK3.out; have := HJ36.out; first | omega | exact Nat.le_refl _⟩, ⟨by (with_reducible repeat (first | apply Kd.R_alloc | apply Kd.R_drewN | apply Kd.R_drew)); exact HO_7.out⟩, ⟨by (with_reducible repeat (first | apply Kd.R_alloc | apply Kd.R_drewN | apply Kd.R_drew)); exact HO_8.out⟩, ⟨by (with_reducible repeat (first | refine blk_drewN ?_ _ | refine blk_drew ?_ | refine blk_alloc ?_ _)); exact BK285.out⟩, ⟨by repeat (first | (with_reducible first | exact HB.out | apply below_alloc | apply pw_below_drewN | apply below_drew1 | refine below_set ?_ GE285.out) | exact HB.out)⟩⟩
                                                    · rw [if_neg c70] at H
                                                      exact absurd H (by simp)
                                                  · rw [if_neg c69] at H
                                                    exact absurd H (by simp)
                                                · rw [if_neg c68] at H
                                                  exact absurd H (by simp)
                                      case rest =>
                                        clear HC60
                                        try clear c1
                                        try clear c2
                                        try clear p2
                                        try clear c3
                                        try clear p3
                                        try clear q3
                                        try clear hx3
                                        try clear c4
                                        try clear c5
                                        try clear c6
                                        try clear p6
                                        try clear c7
                                        try clear c10
                                        try clear c12
                                        try clear c14
                                        try clear c15
                                        try clear c19
                                        try clear c20
                                        try clear c21
                                        try clear c22
                                        try clear c23
                                        try clear c23b0
                                        try clear c23b1
                                        try clear c24
                                        try clear c24b0
                                        try clear c24b1
                                        try clear p30
                                        try clear q30
                                        try clear hx30
                                        try clear p31
                                        try clear q31
                                        try clear hx31
                                        try clear c34
                                        try clear c35
                                        try clear c35b0
                                        try clear c38
                                        try clear c38b0
                                        try clear c39
                                        try clear c39b0
                                        try clear c40
                                        try clear c40b0
                                        try clear c41
                                        try clear c43
                                        try clear c43b0
                                        try clear c43b1
                                        try clear c44
                                        try clear c44b0
                                        try clear c44b1
                                        try clear c45
                                        try clear c45b0
                                        try clear c45b1
                                        try clear c47
                                        try clear c47b0
                                        try clear c48
                                        try clear c48b0
                                        try clear c49
                                        try clear c49b0
                                        try clear c50
                                        try clear c50b0
                                        try clear c51
                                        try clear c55
                                        try clear c55b0
                                        try clear c56
                                        try clear c56b0
                                        try clear c58
                                        try clear c58b0
                                        try clear c59
                                        try clear c59b0
                                        try clear c63
                                        try clear c63b0
                                        try clear c64
                                        try clear c64b0
                                        try clear p64
                                        try clear c65
                                        try clear c65b0
                                        try clear c66
                                        try clear c66b0
                                        try clear c68
                                        try clear c68b0
                                        try clear c68b1
                                        try clear c69
                                        try clear c69b0
                                        try clear c69b1
                                        try clear c70
                                        try clear c70b0
                                        try clear c70b1
                                        try clear hx309_0
                                        try clear hx311_0
                                        try clear hx312_0
                                        try clear hx313_0
                                        try clear p2
                                        try clear p3
                                        try clear p30
                                        try clear p309
                                        try clear p311
                                        try clear p312
                                        try clear p313
                                        try clear p6
                                        try clear q3
                                        try clear q30
                                        try clear q309
                                        try clear q311
                                        try clear q312
                                        try clear q313
                                        obtain ⟨kq, x142_59, rfl, HA, HJ59, HO_7, HO_8, BK285, HB⟩ := hcut
                                        cases kq with
                                        | zero => exact absurd HA.out (by simp [abugidalaw24_DiffPieces.j4])
                                        | succ kj59 =>
                                          have H := HA.out
                                          clear HA
                                          simp only [abugidalaw24_DiffPieces.j4] at H
                                          by_cases c72 : x142_59 = true
                                          · subst c72
                                            rw [if_pos rfl] at H
                                            obtain rfl := Option.some.inj H
                                            go_wp2
                                            go_ret
                                            exact ⟨by first | rfl | (simp [errW_none, errW_some] <;> rfl) | (simp only [← hji54, ← hji57]; first | rfl | (simp [errW_none, errW_some] <;> rfl)) | (simp [*, errW_none, errW_some] <;> rfl), by repeat (first | (with_reducible first | exact HB.out | apply below_alloc | apply pw_below_drewN | apply below_drew1 | refine below_set ?_ GE285.out) | exact HB.out)⟩
                                          · replace c72 := Bool.eq_false_iff.mpr c72
                                            subst c72
                                            rw [if_neg (show ¬ (false = true) by decide)] at H
                                            by_cases c73 : (wrap64 ((wrap64 (x9_2 + ((rdOf ByteArray.empty t298 x10_2).size : Int))) + (rd t293 (ji57)))) < (t288.size : Int)
                                            · rw [if_pos c73] at H
                                              have c73b0 : decide ((wrap64 ((wrap64 (x9_2 + ((rdOf ByteArray.empty t298 x10_2).size : Int))) + (rd t293 (ji57)))) < (t288.size : Int)) = true := decide_eq_true c73
                                              clear c73
                                              obtain ⟨ji74, hji74⟩ : ∃ j_ : Int, (wrap64 (x9_2 + ((rdOf ByteArray.empty t298 x10_2).size : Int))) = j_ := ⟨_, rfl⟩
                                              replace H : (if 0 ≤ (ji74) then (if (ji74) ≤ (wrap64 ((wrap64 ((ji74) + (rd t293 (ji57)))) + 1)) then (if (wrap64 ((wrap64 ((ji74) + (rd t293 (ji57)))) + 1)) ≤ (t288.size : Int) then ((abugidalaw24_find.f kj59 t287 (t288.extract ((ji74) : Int).toNat ((wrap64 ((wrap64 ((ji74) + (rd t293 (ji57)))) + 1)) : Int).toNat)).bind fun t315 => (if t315 ≥ 0 then (some false) else (abugidalaw24_DiffPieces.l0 kj59 t286 t287 t288 t293 t298 (wrap64 ((ji74) + (rd t293 (ji57)))) (wrap64 (x10_2 + 1))))) else (none)) else (none)) else (none)) = some r := by first | (rw [hji74] at H; exact H) | (simp only [hji74] at H ⊢; exact H)
                                              try rw [hji74] at c50b0
                                              try rw [hji74] at c73b0
                                              (try rw [hji74] at c73b0)
                                              have hji74w : (IntKind.i64.wrap (x9_2 + ((rdOf ByteArray.empty t298 x10_2).size : Int))) = ji74 := (i64_w _).trans hji74
                                              by_cases c75 : 0 ≤ (ji74)
                                              · rw [if_pos c75] at H
                                                have c75b0 := eq_true c75
                                                have c75b1 : decide (0 ≤ (ji74)) = true := decide_eq_true c75
                                                clear c75
                                                by_cases c76 : (ji74) ≤ (wrap64 ((wrap64 ((ji74) + (rd t293 (ji57)))) + 1))
                                                · rw [if_pos c76] at H
                                                  have c76b0 := eq_true c76
                                                  have c76b1 : decide ((ji74) ≤ (wrap64 ((wrap64 ((ji74) + (rd t293 (ji57)))) + 1))) = true := decide_eq_true c76
                                                  by_cases c77 : (wrap64 ((wrap64 ((ji74) + (rd t293 (ji57)))) + 1)) ≤ (t288.size : Int)
                                                  · rw [if_pos c77] at H
                                                    have c77b0 := eq_true c77
                                                    have c77b1 : decide ((wrap64 ((wrap64 ((ji74) + (rd t293 (ji57)))) + 1)) ≤ (t288.size : Int)) = true := decide_eq_true c77
                                                    replace H := Option.bind_eq_some_iff.mp H
                                                    obtain ⟨t315, A780, H⟩ := H
                                                    try dsimp only at H
                                                    have A78 := Aside0.mk A780
                                                    clear A780
                                                    by_cases c79 : t315 ≥ 0
                                                    · rw [if_pos c79] at H
                                                      have c79b0 : decide (0 ≤ t315) = true := decide_eq_true c79
                                                      clear c79
                                                      obtain rfl := Option.some.inj H
                                                      go_wp2_with (first | (go_at_call 24; (with_reducible refine (abugidalaw24_find.calls kj59 t287 (t288.extract ((ji74) : Int).toNat ((wrap64 ((wrap64 ((ji74) + (rd t293 (ji57)))) + 1)) : Int).toNat) t315 _ A78.out).mono ?_); rintro e w' ⟨rfl, ⟨nd, rfl⟩⟩))
                                                      go_ret
                                                      exact ⟨by first | rfl | (simp [errW_none, errW_some] <;> rfl) | (simp only [← hji54, ← hji57, ← hji74]; first | rfl | (simp [errW_none, errW_some] <;> rfl)) | (simp [*, errW_none, errW_some] <;> rfl), by repeat (first | (with_reducible first | exact HB.out | apply below_alloc | apply pw_below_drewN | apply below_drew1 | refine below_set ?_ GE285.out) | exact HB.out)⟩
                                                    · rw [if_neg c79] at H
                                                      have c79b0 : decide (0 ≤ t315) = false := decide_eq_false c79
                                                      clear c79
                                                      have H' := Aside0.mk H
                                                      clear H
                                                      go_wp2_with (first | (go_at_call 24; (with_reducible refine (abugidalaw24_find.calls kj59 t287 (t288.extract ((ji74) : Int).toNat ((wrap64 ((wrap64 ((ji74) + (rd t293 (ji57)))) + 1)) : Int).toNat) t315 _ A78.out).mono ?_); rintro e w' ⟨rfl, ⟨nd, rfl⟩⟩))
                                                      go_roundg kj59
                                                      case measure => have := HJ8.out; have := HK2.out; have := HK3.out; have := HJ36.out; have := HJ59.out; omega
                                                      case rel => exact ⟨(wrap64 ((ji74) + (rd t293 (ji57)))), (wrap64 (x10_2 + 1)), (by first | rfl | (simp; done) | (simp only [← hji57, ← hji74] <;> (first | rfl | simp)) | (simp [*]; done)), (by first | rfl | (simp; done) | (simp [*]; done)), H', ⟨by have := HJ8.out; have := HK2.out; have := HK3.out; have := HJ36.out; have := HJ59.out; omega⟩, ⟨by (with_reducible repeat (first | apply Kd.R_alloc | apply Kd.R_drewN | apply Kd.R_drew)); exact HO_7.out⟩, ⟨by (with_reducible repeat (first | apply Kd.R_alloc | apply Kd.R_drewN | apply Kd.R_drew)); exact HO_8.out⟩, ⟨by (with_reducible repeat (first | refine blk_drewN ?_ _ | refine blk_drew ?_ | refine blk_alloc ?_ _)); exact BK285.out⟩, ⟨by repeat (first | (with_reducible first | exact HB.out | apply below_alloc | apply pw_below_drewN | apply below_drew1 | refine below_set ?_ GE285.out) | exact HB.out)⟩⟩
                                                  · rw [if_neg c77] at H
                                                    exact absurd H (by simp)
                                                · rw [if_neg c76] at H
                                                  exact absurd H (by simp)
                                              · rw [if_neg c75] at H
                                                exact absurd H (by simp)
                                            · rw [if_neg c73] at H
                                              have c73b0 : decide ((wrap64 ((wrap64 (x9_2 + ((rdOf ByteArray.empty t298 x10_2).size : Int))) + (rd t293 (ji57)))) < (t288.size : Int)) = false := decide_eq_false c73
                                              clear c73
                                              have H' := Aside0.mk H
                                              clear H
                                              go_wp2
                                              go_roundg kj59
                                              case measure => have := HJ8.out; have := HK2.out; have := HK3.out; have := HJ36.out; have := HJ59.out; omega
                                              case rel => exact ⟨(wrap64 ((wrap64 (x9_2 + ((rdOf ByteArray.empty t298 x10_2).size : Int))) + (rd t293 (ji57)))), (wrap64 (x10_2 + 1)), (by first | rfl | (simp; done) | (simp only [← hji57] <;> (first | rfl | simp)) | (simp [*]; done)), (by first | rfl | (simp; done) | (simp [*]; done)), H', ⟨by have := HJ8.out; have := HK2.out; have := HK3.out; have := HJ36.out; have := HJ59.out; omega⟩, ⟨by (with_reducible repeat (first | apply Kd.R_alloc | apply Kd.R_drewN | apply Kd.R_drew)); exact HO_7.out⟩, ⟨by (with_reducible repeat (first | apply Kd.R_alloc | apply Kd.R_drewN | apply Kd.R_drew)); exact HO_8.out⟩, ⟨by (with_reducible repeat (first | refine blk_drewN ?_ _ | refine blk_drew ?_ | refine blk_alloc ?_ _)); exact BK285.out⟩, ⟨by repeat (first | (with_reducible first | exact HB.out | apply below_alloc | apply pw_below_drewN | apply below_drew1 | refine below_set ?_ GE285.out) | exact HB.out)⟩⟩
                                    · rw [if_neg c59] at H
                                      exact absurd H (by simp)
                                  · rw [if_neg c58] at H
                                    exact absurd H (by simp)
                                · rw [if_neg c56] at H
                                  exact absurd H (by simp)
                              · rw [if_neg c55] at H
                                exact absurd H (by simp)
                          · rw [if_neg c49] at H
                            exact absurd H (by simp)
                        · rw [if_neg c48] at H
                          exact absurd H (by simp)
            · rw [if_neg c35] at H
              have c35b0 : decide (x10_2 < (t298.length : Int)) = false := decide_eq_false c35
              clear c35
              by_cases c80 : t286 = true
              · subst c80
                rw [if_pos rfl] at H
                obtain rfl := Option.some.inj H
                obtain ⟨Ao81, co81, eo81⟩ := Kd.R_slice HO_8.out
                subst eo81
                go_wp2
                go_ret
                exact ⟨by first | rfl | (simp [errW_none, errW_some] <;> rfl) | (simp [*, errW_none, errW_some] <;> rfl), by repeat (first | (with_reducible first | exact HB.out | apply below_alloc | apply pw_below_drewN | apply below_drew1 | refine below_set ?_ GE285.out) | exact HB.out)⟩
              · replace c80 := Bool.eq_false_iff.mpr c80
                subst c80
                rw [if_neg (show ¬ (false = true) by decide)] at H
                obtain rfl := Option.some.inj H
                obtain ⟨Ao82, co82, eo82⟩ := Kd.R_slice HO_8.out
                subst eo82
                go_wp2
                go_ret
                exact ⟨by first | rfl | (simp [errW_none, errW_some] <;> rfl) | (simp [*, errW_none, errW_some] <;> rfl), by repeat (first | (with_reducible first | exact HB.out | apply below_alloc | apply pw_below_drewN | apply below_drew1 | refine below_set ?_ GE285.out) | exact HB.out)⟩

end Go.Proofs.Ytjjpiedcdcdejaa.Pb
