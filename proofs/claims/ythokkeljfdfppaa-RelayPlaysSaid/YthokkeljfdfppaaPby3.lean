import Derived.Test.YthokkeljfdfppaaMgY
namespace Go.Proofs.Ythokkeljfdfppaa.Pb
open Go.RowKit Go.Proofs.Ythokkeljfdfppaa.Gw Go.Proofs.YthokkeljfdfppaaW.PrintWords Go.Proofs.YthokkeljfdfppaaW.PrintLast Go.Proofs.YthokkeljfdfppaaW.PrintMore
open Go.Proofs.Ythokkeljfdfppaa.Gw
attribute [local go_sem] max2_int min2_int max_two min_two max_three min_three max_four min_four   -- for this text's walks alone
set_option linter.unusedVariables false
set_option linter.unusedSimpArgs false

theorem zas19 {p : Prop} (h : p := by first | exact Kd.R_nil _ _ _ _ _ | exact Kd.N_nil _ _ _ _ _ | exact Kd.V_nil _ _ _ _ _ | exact Kd.Q_nil _ _ _ _ _ | exact Kd.S_nil _ _ _ _ _) : p := h
theorem zas18 {p : Prop} (h : p := by repeat (first | (with_reducible first | exact HB.out | apply below_alloc | apply pw_below_drewN | apply below_drew1 | refine below_set ?_ GE529.out) | exact HB.out)) : p := h
theorem zas17 {p : Prop} (h : p := by repeat (first | exact (Kd.R_reads' HO_3.out).2.2 | (with_reducible refine Kd.C_alloc ?_ _) | (with_reducible refine Kd.C_drewN ?_ _) | (with_reducible refine Kd.C_drew ?_))) : p := h
theorem zas16 {p : Prop} (h : p := by first | (go_simp; done) | (go_simp; rfl)) : p := h
theorem zas15 {p : Prop} (h : p := by first | (with_reducible assumption) | assumption) : p := h
theorem zas14 {p : Prop} (h : p := by first | rfl | (simp; done) | (simp [*]; done)) : p := h
theorem zas13 {p : Prop} (h : p := by repeat (first | exact (Kd.C_below HR0_10.out HB.out) | (with_reducible refine Kd.C_alloc ?_ _) | (with_reducible refine Kd.C_drewN ?_ _) | (with_reducible refine Kd.C_drew ?_))) : p := h
theorem zas12 {p : Prop} (h : p := by exact (Reps.one (show Kd.M (Kd.int .i64) _ _ _ a0_2 [.int .i64 a0_2] from rfl) (Reps.one (show Kd.M (Kd.int .i64) _ _ _ a0_3 [.int .i64 a0_3] from rfl) (Reps.one (show Kd.M (Kd.int .i64) _ _ _ a0_4 [.int .i64 a0_4] from rfl) (Reps.one (show Kd.M (Kd.int .i64) _ _ _ a0_5 [.int .i64 a0_5] from rfl) (Reps.one (show Kd.M (Kd.int .i64) _ _ _ a0_6 [.int .i64 a0_6] from rfl) (Reps.one (show Kd.M (Kd.int .i64) _ _ _ a0_7 [.int .i64 a0_7] from rfl) (Reps.none _ _)))))))) : p := h
theorem zas11 {p : Prop} (h : p := by first | rfl | (simp [errW_none, errW_some] <;> rfl) | (simp [*, errW_none, errW_some] <;> rfl)) : p := h
theorem zas10 {p : Prop} (h : p := by (with_reducible repeat (first | apply Kd.R_alloc | apply Kd.R_drewN | apply Kd.R_drew)); exact HO335.out) : p := h
theorem zas9 {p : Prop} (h : p := by (with_reducible repeat (first | apply Kd.R_alloc | apply Kd.R_drewN | apply Kd.R_drew)); exact HO183.out) : p := h
theorem zas8 {p : Prop} (h : p := by show Act.put _ (some _) _ = _; simp only [Act.put, nS]; rfl) : p := h
theorem zas7 {p : Prop} (h : p := by repeat (first | (with_reducible first | exact HB.out | apply below_alloc | apply pw_below_drewN | apply below_drew1 | refine below_set ?_ GE191.out) | exact HB.out)) : p := h
theorem zas6 {p : Prop} (h : p := by (with_reducible repeat (first | refine blk_drewN ?_ _ | refine blk_drew ?_ | refine blk_alloc ?_ _)); exact BK332.out) : p := h
theorem zas5 {p : Prop} (h : p := by (with_reducible repeat (first | refine blk_drewN ?_ _ | refine blk_drew ?_ | refine blk_alloc ?_ _)); exact BK180.out) : p := h
theorem zas4 {p : Prop} (h : p := by (with_reducible repeat (first | apply Kd.R_alloc | apply Kd.R_drewN | apply Kd.R_drew)); exact HO_3.out) : p := h
theorem zas3 {p : Prop} (h : p := by repeat (first | (with_reducible first | exact HB.out | apply below_alloc | apply pw_below_drewN | apply below_drew1 | refine below_set ?_ GE332.out) | exact HB.out)) : p := h
theorem zas2 {p : Prop} (h : p := by repeat (first | (with_reducible first | exact HB.out | apply below_alloc | apply pw_below_drewN | apply below_drew1 | refine below_set ?_ GE180.out) | exact HB.out)) : p := h
theorem zas1 {p : Prop} (h : p := by (try simp only [List.map_toArray, List.map_cons, List.map_nil]); first | done | rfl | (simp only [List.length_drop, List.length_take]; rfl)) : p := h
theorem zas0 {p : Prop} (h : p := by repeat (with_reducible first | exact HB.out | apply below_alloc | apply pw_below_drewN | apply below_drew1)) : p := h
def patch_Encode.f (k : Nat) (a0_0 : ByteArray) (a0_1 : Int) (a0_2 : Int) (a0_3 : Int) (a0_4 : Int) (a0_5 : Int) (a0_6 : Int) (a0_7 : Int) (a0_8 : ByteArray) (a0_9 : Int) (l0_10 : List ByteArray) : Option (ByteArray) := (wire_Text.f k a0_0).bind fun t184 => ((wire_Int.f k a0_1).bind fun t185 => (if t184.size + t185.size ≤ 9223372036854775807 then ((wire_Ints.f k (([a0_2, a0_3, a0_4, a0_5, a0_6, a0_7] : List Int))).bind fun t186 => (if (t184 ++ t185).size + t186.size ≤ 9223372036854775807 then ((wire_Text.f k a0_8).bind fun t187 => (if ((t184 ++ t185) ++ t186).size + t187.size ≤ 9223372036854775807 then ((wire_Int.f k a0_9).bind fun t188 => (if (((t184 ++ t185) ++ t186) ++ t187).size + t188.size ≤ 9223372036854775807 then ((wire_Texts.f k l0_10).bind fun t189 => (if ((((t184 ++ t185) ++ t186) ++ t187) ++ t188).size + t189.size ≤ 9223372036854775807 then (some (((((t184 ++ t185) ++ t186) ++ t187) ++ t188) ++ t189)) else (none))) else (none))) else (none))) else (none))) else (none)))
def patch_Encode.T2 : Bool × List (List Nat × List Nat) := (true, [([], []), ([0], [0]), ([1], [1]), ([], []), ([3], [3]), ([4, 2], [4]), ([2, 5], [2, 5]), ([], []), ([7, 5], [7]), ([6, 8], [6, 8]), ([], []), ([10], [10]), ([11, 8], [11]), ([9, 12], [9, 12]), ([], []), ([14], [14]), ([15, 12], [15]), ([13, 16], [13, 16]), ([], []), ([18], [18]), ([19, 16], [19]), ([17, 20], [17, 20]), ([21, 20, 0, 1, 2, 3, 4, 5, 6, 7, 8, 9, 10, 11, 12, 13, 14, 15, 16, 17, 18, 19, 20, 21], [21])])
def patch_Encode.B2 : List Nat := [0, 1, 3, 0, 8, 31, 63, 0, 191, 511, 0, 1024, 3519, 8191, 0, 16384, 56767, 131071, 0, 262144, 908735, 2097151, 4194303]
theorem patch_Encode.tab2 : rtab .any (opsOf Try.f37 2) = patch_Encode.T2 := by kernel_rfl
theorem patch_Encode.bits2 : waitsOk patch_Encode.T2.2 patch_Encode.B2 = true := by kernel_rfl
set_option maxHeartbeats 8000000 in
set_option maxRecDepth 100000 in
theorem patch_Encode.calls (k : Nat) (a0_0 : ByteArray) (a0_1 : Int) (a0_2 : Int) (a0_3 : Int) (a0_4 : Int) (a0_5 : Int) (a0_6 : Int) (a0_7 : Int) (a0_8 : ByteArray) (a0_9 : Int) (A0_10 : Option Addr) (c0_10 : Nat) (l0_10 : List ByteArray) (r : ByteArray) (w : World) (hr0_10 : Kd.C Kd.string w A0_10 l0_10.length l0_10) (hc0_10 : l0_10.length ≤ c0_10) (h : patch_Encode.f k a0_0 a0_1 a0_2 a0_3 a0_4 a0_5 a0_6 a0_7 a0_8 a0_9 l0_10 = some r) :
 Calls Try.prog 37 #[.agg #[.string a0_0, .int .i64 a0_1, .int .i64 a0_2, .int .i64 a0_3, .int .i64 a0_4, .int .i64 a0_5, .int .i64 a0_6, .int .i64 a0_7, .string a0_8, .int .i64 a0_9, .slice A0_10 l0_10.length c0_10]] w fun e w' => e = .returned (.string r) ∧ Below w.heap.size w w' := by
 have hu55 := Try.underlying55
 have HR0_10 := Aside0.mk hr0_10
 have HC0_10 := Aside0.mk hc0_10
 clear hr0_10 hc0_10
 have HB := Aside0.mk (Below.refl w.heap.size w)
 have H : ((wire_Text.f k a0_0).bind fun t184 => ((wire_Int.f k a0_1).bind fun t185 => (if t184.size + t185.size ≤ 9223372036854775807 then ((wire_Ints.f k (([a0_2, a0_3, a0_4, a0_5, a0_6, a0_7] : List Int))).bind fun t186 => (if (t184 ++ t185).size + t186.size ≤ 9223372036854775807 then ((wire_Text.f k a0_8).bind fun t187 => (if ((t184 ++ t185) ++ t186).size + t187.size ≤ 9223372036854775807 then ((wire_Int.f k a0_9).bind fun t188 => (if (((t184 ++ t185) ++ t186) ++ t187).size + t188.size ≤ 9223372036854775807 then ((wire_Texts.f k l0_10).bind fun t189 => (if ((((t184 ++ t185) ++ t186) ++ t187) ++ t188).size + t189.size ≤ 9223372036854775807 then (some (((((t184 ++ t185) ++ t186) ++ t187) ++ t188) ++ t189)) else (none))) else (none))) else (none))) else (none))) else (none)))) = some r := h
 clear h
 obtain ⟨y181, hy181⟩ : ∃ y_ : List Int, y_ = (([a0_2, a0_3, a0_4, a0_5, a0_6, a0_7] : List Int)) := ⟨_, rfl⟩
 replace H : ((wire_Text.f k a0_0).bind fun t184 => ((wire_Int.f k a0_1).bind fun t185 => (if t184.size + t185.size ≤ 9223372036854775807 then ((wire_Ints.f k y181).bind fun t186 => (if (t184 ++ t185).size + t186.size ≤ 9223372036854775807 then ((wire_Text.f k a0_8).bind fun t187 => (if ((t184 ++ t185) ++ t186).size + t187.size ≤ 9223372036854775807 then ((wire_Int.f k a0_9).bind fun t188 => (if (((t184 ++ t185) ++ t186) ++ t187).size + t188.size ≤ 9223372036854775807 then ((wire_Texts.f k l0_10).bind fun t189 => (if ((((t184 ++ t185) ++ t186) ++ t187) ++ t188).size + t189.size ≤ 9223372036854775807 then (some (((((t184 ++ t185) ++ t186) ++ t187) ++ t188) ++ t189)) else (none))) else (none))) else (none))) else (none))) else (none)))) = some r := by first | (rw [hy181]; with_reducible exact H) | (have H2_ := (Option.bind_some _ _).symm.trans H; rw [hy181]; with_reducible exact H2_) | (have H2_ := (Option.bind_some _ _).symm.trans H; with_reducible exact H2_) | with_reducible exact H | (rw [hy181]; exact H) | exact H
 have Ny181 := Aside0.mk hy181
 clear hy181
 replace H := Option.bind_eq_some_iff.mp H
 obtain ⟨t184, A20, H⟩ := H
 try dsimp only at H
 have A2 := Aside0.mk A20
 clear A20
 replace H := Option.bind_eq_some_iff.mp H
 obtain ⟨t185, A30, H⟩ := H
 try dsimp only at H
 have A3 := Aside0.mk A30
 clear A30
 by_cases c4 : t184.size + t185.size ≤ 9223372036854775807
 · rw [if_pos c4] at H
   have c4b0 := eq_true c4
   have c4b1 : decide (t184.size + t185.size ≤ 9223372036854775807) = true := decide_eq_true c4
   try have c4b2 : (9223372036854775807 < t184.size + t185.size) = False := eq_false (Nat.not_lt.2 c4)
   replace H := Option.bind_eq_some_iff.mp H
   obtain ⟨t186, A50, H⟩ := H
   try dsimp only at H
   have A5 := Aside0.mk A50
   clear A50
   by_cases c6 : (t184 ++ t185).size + t186.size ≤ 9223372036854775807
   · rw [if_pos c6] at H
     have c6b0 := eq_true c6
     have c6b1 : decide ((t184 ++ t185).size + t186.size ≤ 9223372036854775807) = true := decide_eq_true c6
     try have c6b2 : (9223372036854775807 < (t184 ++ t185).size + t186.size) = False := eq_false (Nat.not_lt.2 c6)
     try (have c6e := c6; simp only [ByteArray.size_append] at c6e; have c6e1 := eq_true c6e; have c6e2 := eq_false (Nat.not_lt.2 c6e); clear c6e)
     replace H := Option.bind_eq_some_iff.mp H
     obtain ⟨t187, A70, H⟩ := H
     try dsimp only at H
     have A7 := Aside0.mk A70
     clear A70
     by_cases c8 : ((t184 ++ t185) ++ t186).size + t187.size ≤ 9223372036854775807
     · rw [if_pos c8] at H
       have c8b0 := eq_true c8
       have c8b1 : decide (((t184 ++ t185) ++ t186).size + t187.size ≤ 9223372036854775807) = true := decide_eq_true c8
       try have c8b2 : (9223372036854775807 < ((t184 ++ t185) ++ t186).size + t187.size) = False := eq_false (Nat.not_lt.2 c8)
       try (have c8e := c8; simp only [ByteArray.size_append] at c8e; have c8e1 := eq_true c8e; have c8e2 := eq_false (Nat.not_lt.2 c8e); clear c8e)
       replace H := Option.bind_eq_some_iff.mp H
       obtain ⟨t188, A90, H⟩ := H
       try dsimp only at H
       have A9 := Aside0.mk A90
       clear A90
       by_cases c10 : (((t184 ++ t185) ++ t186) ++ t187).size + t188.size ≤ 9223372036854775807
       · rw [if_pos c10] at H
         have c10b0 := eq_true c10
         have c10b1 : decide ((((t184 ++ t185) ++ t186) ++ t187).size + t188.size ≤ 9223372036854775807) = true := decide_eq_true c10
         try have c10b2 : (9223372036854775807 < (((t184 ++ t185) ++ t186) ++ t187).size + t188.size) = False := eq_false (Nat.not_lt.2 c10)
         try (have c10e := c10; simp only [ByteArray.size_append] at c10e; have c10e1 := eq_true c10e; have c10e2 := eq_false (Nat.not_lt.2 c10e); clear c10e)
         replace H := Option.bind_eq_some_iff.mp H
         obtain ⟨t189, A110, H⟩ := H
         try dsimp only at H
         have A11 := Aside0.mk A110
         clear A110
         by_cases c12 : ((((t184 ++ t185) ++ t186) ++ t187) ++ t188).size + t189.size ≤ 9223372036854775807
         · rw [if_pos c12] at H
           have c12b0 := eq_true c12
           have c12b1 : decide (((((t184 ++ t185) ++ t186) ++ t187) ++ t188).size + t189.size ≤ 9223372036854775807) = true := decide_eq_true c12
           try have c12b2 : (9223372036854775807 < ((((t184 ++ t185) ++ t186) ++ t187) ++ t188).size + t189.size) = False := eq_false (Nat.not_lt.2 c12)
           try (have c12e := c12; simp only [ByteArray.size_append] at c12e; have c12e1 := eq_true c12e; have c12e2 := eq_false (Nat.not_lt.2 c12e); clear c12e)
           obtain rfl := Option.some.inj H
           go_enter Try.func37, Try.ntmps37
           try go_wp2_with (first | ((with_reducible refine gate_dst (N := 1) rfl ?_); refine box_event ?hg (N := 1) ?hd (cs := #[.string a0_0, .int .i64 a0_1, .int .i64 a0_2, .int .i64 a0_3, .int .i64 a0_4, .int .i64 a0_5, .int .i64 a0_6, .int .i64 a0_7, .string a0_8, .int .i64 a0_9, .slice A0_10 l0_10.length c0_10]) (t := 55) ?hr ?_; (case hd => rfl); (case hg => rfl); (case hr => exact zas16); intro gb180 hg w13 hbox hb; have n0_ := Aside0.mk (below_step zas0 hb); have n1_ := Aside0.mk (hbox); have n2_ := Aside0.mk ((by rw [hg]; exact (below_size zas0) : w.heap.size ≤ gb180)); have n3_ := Aside0.mk ((by rw [hg]; exact (below_size zas0) : w.heap.size ≤ gb180)); clear HB; have HB := n0_; have BK180 := n1_; have GW180 := n2_; have GE180 := n3_; clear n0_ n1_ n2_ n3_; clear hb hbox hg; have hcz14_0 : w13.cell? ⟨gb180, 0, none⟩ = some (.string a0_0) := (blk_cell BK180.out 0).trans rfl; have hcz14_1 : w13.cell? ⟨gb180, 1, none⟩ = some (.int .i64 a0_1) := (blk_cell BK180.out 1).trans rfl; have hcz14_2 : w13.cell? ⟨gb180, 2, none⟩ = some (.int .i64 a0_2) := (blk_cell BK180.out 2).trans rfl; have hcz14_3 : w13.cell? ⟨gb180, 3, none⟩ = some (.int .i64 a0_3) := (blk_cell BK180.out 3).trans rfl; have hcz14_4 : w13.cell? ⟨gb180, 4, none⟩ = some (.int .i64 a0_4) := (blk_cell BK180.out 4).trans rfl; have hcz14_5 : w13.cell? ⟨gb180, 5, none⟩ = some (.int .i64 a0_5) := (blk_cell BK180.out 5).trans rfl; have hcz14_6 : w13.cell? ⟨gb180, 6, none⟩ = some (.int .i64 a0_6) := (blk_cell BK180.out 6).trans rfl; have hcz14_7 : w13.cell? ⟨gb180, 7, none⟩ = some (.int .i64 a0_7) := (blk_cell BK180.out 7).trans rfl; have hcz14_8 : w13.cell? ⟨gb180, 8, none⟩ = some (.string a0_8) := (blk_cell BK180.out 8).trans rfl; have hcz14_9 : w13.cell? ⟨gb180, 9, none⟩ = some (.int .i64 a0_9) := (blk_cell BK180.out 9).trans rfl; have hcz14_10 : w13.cell? ⟨gb180, 10, none⟩ = some (.slice A0_10 l0_10.length c0_10) := (blk_cell BK180.out 10).trans rfl; have hfz14_0 := blk_frozen BK180.out 0; have hfz14_1 := blk_frozen BK180.out 1; have hfz14_2 := blk_frozen BK180.out 2; have hfz14_3 := blk_frozen BK180.out 3; have hfz14_4 := blk_frozen BK180.out 4; have hfz14_5 := blk_frozen BK180.out 5; have hfz14_6 := blk_frozen BK180.out 6; have hfz14_7 := blk_frozen BK180.out 7; have hfz14_8 := blk_frozen BK180.out 8; have hfz14_9 := blk_frozen BK180.out 9; have hfz14_10 := blk_frozen BK180.out 10) | ((with_reducible refine gate_dst (N := 22) rfl ?_); refine Kd.R_lit (Kd.int .i64) _ 3 ?hg (N := 22) ?hd (xs := ([a0_2, a0_3, a0_4, a0_5, a0_6, a0_7] : List Int)) (inner := [.int .i64 a0_2, .int .i64 a0_3, .int .i64 a0_4, .int .i64 a0_5, .int .i64 a0_6, .int .i64 a0_7]) (ok := fun _ => True) (okp := fun _ => True) ?hr ?hp (fun _ hk => hk) trivial (Below.refl _ _) (Nat.le_refl _) (by simp) ?_; (case hd => rfl); (case hg => rfl); (case hr => exact zas16); (case hp => exact zas12); intro v182 w15 ho16 hb hg_ hnew_; clear hg_ hnew_; (first | rw [← Ny181.out] at ho16 | (simp only [Int.reduceToNat] at ho16; rw [← Ny181.out] at ho16)); have n0_ := Aside0.mk (Kd.R_lower ho16 (below_size zas2)); have n1_ := Aside0.mk (blk_below (g := gb180) (o := .cells #[.string a0_0, .int .i64 a0_1, .int .i64 a0_2, .int .i64 a0_3, .int .i64 a0_4, .int .i64 a0_5, .int .i64 a0_6, .int .i64 a0_7, .string a0_8, .int .i64 a0_9, .slice A0_10 l0_10.length c0_10] 55 (0, 0)) zas5 hb); have n2_ := Aside0.mk (below_step zas2 hb); clear BK180; clear HB; have HO183 := n0_; have BK180 := n1_; have HB := n2_; clear n0_ n1_ n2_; clear hb ho16))
           have n0_ := Aside0.mk (Kd.R_drew HO183.out)
           have n1_ := Aside0.mk (blk_drew BK180.out)
           have n2_ := Aside0.mk (below_drew1 HB.out)
           clear HO183
           clear BK180
           clear HB
           have HO183 := n0_
           have BK180 := n1_
           have HB := n2_
           clear n0_ n1_ n2_
           refine start_ (n := 23) (S := fun w' => w'.cell? ⟨gb180, 0, none⟩ = some (.string a0_0) ∧ w'.cell? ⟨gb180, 1, none⟩ = some (.int .i64 a0_1) ∧ w'.cell? ⟨gb180, 2, none⟩ = some (.int .i64 a0_2) ∧ w'.cell? ⟨gb180, 3, none⟩ = some (.int .i64 a0_3) ∧ w'.cell? ⟨gb180, 4, none⟩ = some (.int .i64 a0_4) ∧ w'.cell? ⟨gb180, 5, none⟩ = some (.int .i64 a0_5) ∧ w'.cell? ⟨gb180, 6, none⟩ = some (.int .i64 a0_6) ∧ w'.cell? ⟨gb180, 7, none⟩ = some (.int .i64 a0_7) ∧ w'.cell? ⟨gb180, 8, none⟩ = some (.string a0_8) ∧ w'.cell? ⟨gb180, 9, none⟩ = some (.int .i64 a0_9) ∧ w'.cell? ⟨gb180, 10, none⟩ = some (.slice A0_10 l0_10.length c0_10)) (ds := []) #[false, false, false, false, false, false, false, false, false, false, false, false, false, false, false, false, false, false, false, false, false, false, false] (by kernel_rfl) rfl rfl ⟨(blk_cell BK180.out 0).trans rfl, (blk_cell BK180.out 1).trans rfl, (blk_cell BK180.out 2).trans rfl, (blk_cell BK180.out 3).trans rfl, (blk_cell BK180.out 4).trans rfl, (blk_cell BK180.out 5).trans rfl, (blk_cell BK180.out 6).trans rfl, (blk_cell BK180.out 7).trans rfl, (blk_cell BK180.out 8).trans rfl, (blk_cell BK180.out 9).trans rfl, (blk_cell BK180.out 10).trans rfl⟩ (fun hHeld => ?_); refine with_tabW patch_Encode.tab2 patch_Encode.bits2 (fun HT_ HW_ => ?_)
           generalize w15.drew = w17 at HO183 BK180 HB hHeld ⊢
           refine pure_ (i := 0) (N := some 23) (v := ?_) (a' := ?_) #[true, false, false, false, false, false, false, false, false, false, false, false, false, false, false, false, false, false, false, false, false, false, false] rfl rfl (any_of HT_.out (by kernel_rfl)) (fun _ _ _ h => h) (Or.inl ⟨by rfl, ?_⟩) ?_ ?_
           rotate_left
           · intro w'
             go_simp
             with_reducible rfl
           rotate_left
           · simp only [Act.put, nS]
             rfl
           refine pure_ (i := 3) (N := some 26) (v := ?_) (a' := ?_) #[true, false, false, true, false, false, false, false, false, false, false, false, false, false, false, false, false, false, false, false, false, false, false] rfl rfl (any_of HT_.out (by kernel_rfl)) (fun _ _ _ h => h) (Or.inl ⟨by rfl, ?_⟩) ?_ ?_
           rotate_left
           · intro w'
             go_simp
             with_reducible rfl
           rotate_left
           · simp only [Act.put, nS]
             rfl
           refine pure_ (i := 7) (N := some 30) (v := ?_) (a' := ?_) #[true, false, false, true, false, false, false, true, false, false, false, false, false, false, false, false, false, false, false, false, false, false, false] rfl rfl (any_of HT_.out (by kernel_rfl)) (fun _ _ _ h => h) (Or.inl ⟨by rfl, ?_⟩) ?_ ?_
           rotate_left
           · intro w'
             go_simp
             with_reducible rfl
           rotate_left
           · simp only [Act.put, nS]
             rfl
           refine pure_ (i := 10) (N := some 33) (v := ?_) (a' := ?_) #[true, false, false, true, false, false, false, true, false, false, true, false, false, false, false, false, false, false, false, false, false, false, false] rfl rfl (any_of HT_.out (by kernel_rfl)) (fun _ _ _ h => h) (Or.inl ⟨by rfl, ?_⟩) ?_ ?_
           rotate_left
           · intro w'
             go_simp
             with_reducible rfl
           rotate_left
           · simp only [Act.put, nS]
             rfl
           refine pure_ (i := 14) (N := some 37) (v := ?_) (a' := ?_) #[true, false, false, true, false, false, false, true, false, false, true, false, false, false, true, false, false, false, false, false, false, false, false] rfl rfl (any_of HT_.out (by kernel_rfl)) (fun _ _ _ h => h) (Or.inl ⟨by rfl, ?_⟩) ?_ ?_
           rotate_left
           · intro w'
             go_simp
             with_reducible rfl
           rotate_left
           · simp only [Act.put, nS]
             rfl
           refine pure_ (i := 18) (N := some 41) (v := ?_) (a' := ?_) #[true, false, false, true, false, false, false, true, false, false, true, false, false, false, true, false, false, false, true, false, false, false, false] rfl rfl (any_of HT_.out (by kernel_rfl)) (fun _ _ _ h => h) (Or.inl ⟨by rfl, ?_⟩) ?_ ?_
           rotate_left
           · intro w'
             go_simp
             with_reducible rfl
           rotate_left
           · simp only [Act.put, nS]
             rfl
           refine take_ (i := 1) (N := some 24) (v := ?_) (a' := ?_) #[true, true, false, true, false, false, false, true, false, false, true, false, false, false, true, false, false, false, true, false, false, false, false] rfl rfl (take_ofW HT_.out HW_.out (by kernel_rfl)) (fun _ _ _ h => h) (Or.inl ⟨by rfl, ?_⟩) hHeld ?_ ?_
           rotate_left
           · rintro w' ⟨s0, s1, s2, s3, s4, s5, s6, s7, s8, s9, s10⟩
             go_simp
             with_reducible rfl
           rotate_left
           · simp only [Act.put, nS]
             rfl
           refine take_ (i := 4) (N := some 27) (v := ?_) (a' := ?_) #[true, true, false, true, true, false, false, true, false, false, true, false, false, false, true, false, false, false, true, false, false, false, false] rfl rfl (take_ofW HT_.out HW_.out (by kernel_rfl)) (fun _ _ _ h => h) (Or.inl ⟨by rfl, ?_⟩) hHeld ?_ ?_
           rotate_left
           · rintro w' ⟨s0, s1, s2, s3, s4, s5, s6, s7, s8, s9, s10⟩
             go_simp
             with_reducible rfl
           rotate_left
           · simp only [Act.put, nS]
             rfl
           refine take_ (i := 11) (N := some 34) (v := ?_) (a' := ?_) #[true, true, false, true, true, false, false, true, false, false, true, true, false, false, true, false, false, false, true, false, false, false, false] rfl rfl (take_ofW HT_.out HW_.out (by kernel_rfl)) (fun _ _ _ h => h) (Or.inl ⟨by rfl, ?_⟩) hHeld ?_ ?_
           rotate_left
           · rintro w' ⟨s0, s1, s2, s3, s4, s5, s6, s7, s8, s9, s10⟩
             go_simp
             with_reducible rfl
           rotate_left
           · simp only [Act.put, nS]
             rfl
           refine take_ (i := 15) (N := some 38) (v := ?_) (a' := ?_) #[true, true, false, true, true, false, false, true, false, false, true, true, false, false, true, true, false, false, true, false, false, false, false] rfl rfl (take_ofW HT_.out HW_.out (by kernel_rfl)) (fun _ _ _ h => h) (Or.inl ⟨by rfl, ?_⟩) hHeld ?_ ?_
           rotate_left
           · rintro w' ⟨s0, s1, s2, s3, s4, s5, s6, s7, s8, s9, s10⟩
             go_simp
             with_reducible rfl
           rotate_left
           · simp only [Act.put, nS]
             rfl
           refine take_ (i := 19) (N := some 42) (v := ?_) (a' := ?_) #[true, true, false, true, true, false, false, true, false, false, true, true, false, false, true, true, false, false, true, true, false, false, false] rfl rfl (take_ofW HT_.out HW_.out (by kernel_rfl)) (fun _ _ _ h => h) (Or.inl ⟨by rfl, ?_⟩) hHeld ?_ ?_
           rotate_left
           · rintro w' ⟨s0, s1, s2, s3, s4, s5, s6, s7, s8, s9, s10⟩
             go_simp
             with_reducible rfl
           rotate_left
           · simp only [Act.put, nS]
             rfl
           refine one_ (i := 2) (N := some 25) #[true, true, true, true, true, false, false, true, false, false, true, true, false, false, true, true, false, false, true, true, false, false, false] rfl rfl (one_of HT_.out (by kernel_rfl)) (by decide) (fun K hK => ?_)
           refine goes_ Try.func49 (by kernel_rfl) rfl #[.string a0_0] (by rfl) rfl rfl zas1 ?_
           with_reducible refine (wire_Text.calls k a0_0 t184 _ A2.out).mono ?_
           rintro e w18 ⟨rfl, hb⟩
           refine ⟨_, rfl, ?_⟩
           have n0_ := Aside0.mk (Kd.R_below zas9 hb)
           have n1_ := Aside0.mk (blk_below (g := gb180) (o := .cells #[.string a0_0, .int .i64 a0_1, .int .i64 a0_2, .int .i64 a0_3, .int .i64 a0_4, .int .i64 a0_5, .int .i64 a0_6, .int .i64 a0_7, .string a0_8, .int .i64 a0_9, .slice A0_10 l0_10.length c0_10] 55 (0, 0)) zas5 hb)
           have n2_ := Aside0.mk (below_step zas2 hb)
           clear HO183
           clear BK180
           clear HB
           have HO183 := n0_
           have BK180 := n1_
           have HB := n2_
           clear n0_ n1_ n2_
           (try clear hb)
           (try clear hb2)
           (try clear hk)
           (try clear hi)
           refine hK.out _ _ ⟨(blk_cell BK180.out 0).trans rfl, (blk_cell BK180.out 1).trans rfl, (blk_cell BK180.out 2).trans rfl, (blk_cell BK180.out 3).trans rfl, (blk_cell BK180.out 4).trans rfl, (blk_cell BK180.out 5).trans rfl, (blk_cell BK180.out 6).trans rfl, (blk_cell BK180.out 7).trans rfl, (blk_cell BK180.out 8).trans rfl, (blk_cell BK180.out 9).trans rfl, (blk_cell BK180.out 10).trans rfl⟩ (fun hHeld => norm_ zas8 ?_)
           clear hK K
           refine one_ (i := 5) (N := some 28) #[true, true, true, true, true, true, false, true, false, false, true, true, false, false, true, true, false, false, true, true, false, false, false] rfl rfl (one_of HT_.out (by kernel_rfl)) (by decide) (fun K hK => ?_)
           refine goes_ Try.func50 (by kernel_rfl) rfl #[.int .i64 a0_1] (by rfl) rfl rfl zas1 ?_
           with_reducible refine (wire_Int.calls k a0_1 t185 _ A3.out).mono ?_
           rintro e w19 ⟨rfl, hb⟩
           refine ⟨_, rfl, ?_⟩
           have n0_ := Aside0.mk (Kd.R_below zas9 hb)
           have n1_ := Aside0.mk (blk_below (g := gb180) (o := .cells #[.string a0_0, .int .i64 a0_1, .int .i64 a0_2, .int .i64 a0_3, .int .i64 a0_4, .int .i64 a0_5, .int .i64 a0_6, .int .i64 a0_7, .string a0_8, .int .i64 a0_9, .slice A0_10 l0_10.length c0_10] 55 (0, 0)) zas5 hb)
           have n2_ := Aside0.mk (below_step zas2 hb)
           clear HO183
           clear BK180
           clear HB
           have HO183 := n0_
           have BK180 := n1_
           have HB := n2_
           clear n0_ n1_ n2_
           (try clear hb)
           (try clear hb2)
           (try clear hk)
           (try clear hi)
           obtain ⟨Ao20, co20, eo20⟩ := Kd.R_slice HO183.out
           (first | subst eo20 | (injection eo20 with f1_ f2_ f3_; have f4_ := f1_.symm; have f5_ := f3_.symm; clear f1_ f2_ f3_; subst f4_; subst f5_))
           refine hK.out _ _ ⟨(blk_cell BK180.out 0).trans rfl, (blk_cell BK180.out 1).trans rfl, (blk_cell BK180.out 2).trans rfl, (blk_cell BK180.out 3).trans rfl, (blk_cell BK180.out 4).trans rfl, (blk_cell BK180.out 5).trans rfl, (blk_cell BK180.out 6).trans rfl, (blk_cell BK180.out 7).trans rfl, (blk_cell BK180.out 8).trans rfl, (blk_cell BK180.out 9).trans rfl, (blk_cell BK180.out 10).trans rfl⟩ (fun hHeld => norm_ zas8 ?_)
           clear hK K
           refine pure_ (i := 6) (N := some 29) (v := ?_) (a' := ?_) #[true, true, true, true, true, true, true, true, false, false, true, true, false, false, true, true, false, false, true, true, false, false, false] rfl rfl (any_of HT_.out (by kernel_rfl)) (fun _ _ _ h => h) (Or.inl ⟨by rfl, ?_⟩) ?_ ?_
           rotate_left
           · intro w'
             go_simp
             with_reducible rfl
           rotate_left
           · simp only [Act.put, nS]
             rfl
           refine one_ (i := 8) (N := some 31) #[true, true, true, true, true, true, true, true, true, false, true, true, false, false, true, true, false, false, true, true, false, false, false] rfl rfl (one_of HT_.out (by kernel_rfl)) (by decide) (fun K hK => ?_)
           refine goes_ Try.func51 (by kernel_rfl) rfl #[.slice Ao20 y181.length co20] (by rfl) rfl rfl zas1 ?_
           with_reducible refine (wire_Ints.calls k _ _ y181 t186 _ ?side1 ?side2 A5.out).mono ?_
           (case side1 => repeat (first | exact (Kd.R_reads' HO183.out).2.2 | (with_reducible refine Kd.C_alloc ?_ _) | (with_reducible refine Kd.C_drewN ?_ _) | (with_reducible refine Kd.C_drew ?_)))
           (case side2 => exact (Kd.R_reads' HO183.out).2.1)
           rintro e w21 ⟨rfl, hb⟩
           refine ⟨_, rfl, ?_⟩
           have n0_ := Aside0.mk (Kd.R_below zas9 hb)
           have n1_ := Aside0.mk (blk_below (g := gb180) (o := .cells #[.string a0_0, .int .i64 a0_1, .int .i64 a0_2, .int .i64 a0_3, .int .i64 a0_4, .int .i64 a0_5, .int .i64 a0_6, .int .i64 a0_7, .string a0_8, .int .i64 a0_9, .slice A0_10 l0_10.length c0_10] 55 (0, 0)) zas5 hb)
           have n2_ := Aside0.mk (below_step zas2 hb)
           clear HO183
           clear BK180
           clear HB
           have HO183 := n0_
           have BK180 := n1_
           have HB := n2_
           clear n0_ n1_ n2_
           (try clear hb)
           (try clear hb2)
           (try clear hk)
           (try clear hi)
           refine hK.out _ _ ⟨(blk_cell BK180.out 0).trans rfl, (blk_cell BK180.out 1).trans rfl, (blk_cell BK180.out 2).trans rfl, (blk_cell BK180.out 3).trans rfl, (blk_cell BK180.out 4).trans rfl, (blk_cell BK180.out 5).trans rfl, (blk_cell BK180.out 6).trans rfl, (blk_cell BK180.out 7).trans rfl, (blk_cell BK180.out 8).trans rfl, (blk_cell BK180.out 9).trans rfl, (blk_cell BK180.out 10).trans rfl⟩ (fun hHeld => norm_ zas8 ?_)
           clear hK K
           refine pure_ (i := 9) (N := some 32) (v := ?_) (a' := ?_) #[true, true, true, true, true, true, true, true, true, true, true, true, false, false, true, true, false, false, true, true, false, false, false] rfl rfl (any_of HT_.out (by kernel_rfl)) (fun _ _ _ h => h) (Or.inl ⟨by rfl, ?_⟩) ?_ ?_
           rotate_left
           · intro w'
             go_simp
             with_reducible rfl
           rotate_left
           · simp only [Act.put, nS]
             rfl
           refine one_ (i := 12) (N := some 35) #[true, true, true, true, true, true, true, true, true, true, true, true, true, false, true, true, false, false, true, true, false, false, false] rfl rfl (one_of HT_.out (by kernel_rfl)) (by decide) (fun K hK => ?_)
           refine goes_ Try.func49 (by kernel_rfl) rfl #[.string a0_8] (by rfl) rfl rfl zas1 ?_
           with_reducible refine (wire_Text.calls k a0_8 t187 _ A7.out).mono ?_
           rintro e w22 ⟨rfl, hb⟩
           refine ⟨_, rfl, ?_⟩
           have n0_ := Aside0.mk (Kd.R_below zas9 hb)
           have n1_ := Aside0.mk (blk_below (g := gb180) (o := .cells #[.string a0_0, .int .i64 a0_1, .int .i64 a0_2, .int .i64 a0_3, .int .i64 a0_4, .int .i64 a0_5, .int .i64 a0_6, .int .i64 a0_7, .string a0_8, .int .i64 a0_9, .slice A0_10 l0_10.length c0_10] 55 (0, 0)) zas5 hb)
           have n2_ := Aside0.mk (below_step zas2 hb)
           clear HO183
           clear BK180
           clear HB
           have HO183 := n0_
           have BK180 := n1_
           have HB := n2_
           clear n0_ n1_ n2_
           (try clear hb)
           (try clear hb2)
           (try clear hk)
           (try clear hi)
           refine hK.out _ _ ⟨(blk_cell BK180.out 0).trans rfl, (blk_cell BK180.out 1).trans rfl, (blk_cell BK180.out 2).trans rfl, (blk_cell BK180.out 3).trans rfl, (blk_cell BK180.out 4).trans rfl, (blk_cell BK180.out 5).trans rfl, (blk_cell BK180.out 6).trans rfl, (blk_cell BK180.out 7).trans rfl, (blk_cell BK180.out 8).trans rfl, (blk_cell BK180.out 9).trans rfl, (blk_cell BK180.out 10).trans rfl⟩ (fun hHeld => norm_ zas8 ?_)
           clear hK K
           refine pure_ (i := 13) (N := some 36) (v := ?_) (a' := ?_) #[true, true, true, true, true, true, true, true, true, true, true, true, true, true, true, true, false, false, true, true, false, false, false] rfl rfl (any_of HT_.out (by kernel_rfl)) (fun _ _ _ h => h) (Or.inl ⟨by rfl, ?_⟩) ?_ ?_
           rotate_left
           · intro w'
             go_simp
             with_reducible rfl
           rotate_left
           · simp only [Act.put, nS]
             rfl
           refine one_ (i := 16) (N := some 39) #[true, true, true, true, true, true, true, true, true, true, true, true, true, true, true, true, true, false, true, true, false, false, false] rfl rfl (one_of HT_.out (by kernel_rfl)) (by decide) (fun K hK => ?_)
           refine goes_ Try.func50 (by kernel_rfl) rfl #[.int .i64 a0_9] (by rfl) rfl rfl zas1 ?_
           with_reducible refine (wire_Int.calls k a0_9 t188 _ A9.out).mono ?_
           rintro e w23 ⟨rfl, hb⟩
           refine ⟨_, rfl, ?_⟩
           have n0_ := Aside0.mk (Kd.R_below zas9 hb)
           have n1_ := Aside0.mk (blk_below (g := gb180) (o := .cells #[.string a0_0, .int .i64 a0_1, .int .i64 a0_2, .int .i64 a0_3, .int .i64 a0_4, .int .i64 a0_5, .int .i64 a0_6, .int .i64 a0_7, .string a0_8, .int .i64 a0_9, .slice A0_10 l0_10.length c0_10] 55 (0, 0)) zas5 hb)
           have n2_ := Aside0.mk (below_step zas2 hb)
           clear HO183
           clear BK180
           clear HB
           have HO183 := n0_
           have BK180 := n1_
           have HB := n2_
           clear n0_ n1_ n2_
           (try clear hb)
           (try clear hb2)
           (try clear hk)
           (try clear hi)
           refine hK.out _ _ ⟨(blk_cell BK180.out 0).trans rfl, (blk_cell BK180.out 1).trans rfl, (blk_cell BK180.out 2).trans rfl, (blk_cell BK180.out 3).trans rfl, (blk_cell BK180.out 4).trans rfl, (blk_cell BK180.out 5).trans rfl, (blk_cell BK180.out 6).trans rfl, (blk_cell BK180.out 7).trans rfl, (blk_cell BK180.out 8).trans rfl, (blk_cell BK180.out 9).trans rfl, (blk_cell BK180.out 10).trans rfl⟩ (fun hHeld => norm_ zas8 ?_)
           clear hK K
           refine pure_ (i := 17) (N := some 40) (v := ?_) (a' := ?_) #[true, true, true, true, true, true, true, true, true, true, true, true, true, true, true, true, true, true, true, true, false, false, false] rfl rfl (any_of HT_.out (by kernel_rfl)) (fun _ _ _ h => h) (Or.inl ⟨by rfl, ?_⟩) ?_ ?_
           rotate_left
           · intro w'
             go_simp
             with_reducible rfl
           rotate_left
           · simp only [Act.put, nS]
             rfl
           refine one_ (i := 20) (N := some 43) #[true, true, true, true, true, true, true, true, true, true, true, true, true, true, true, true, true, true, true, true, true, false, false] rfl rfl (one_of HT_.out (by kernel_rfl)) (by decide) (fun K hK => ?_)
           refine goes_ Try.func60 (by kernel_rfl) rfl #[.slice A0_10 l0_10.length c0_10] (by rfl) rfl rfl zas1 ?_
           with_reducible refine (wire_Texts.calls k _ _ l0_10 t189 _ ?side1 ?side2 A11.out).mono ?_
           (case side1 => exact zas13)
           (case side2 => exact HC0_10.out)
           rintro e w24 ⟨rfl, hb⟩
           refine ⟨_, rfl, ?_⟩
           have n0_ := Aside0.mk (Kd.R_below zas9 hb)
           have n1_ := Aside0.mk (blk_below (g := gb180) (o := .cells #[.string a0_0, .int .i64 a0_1, .int .i64 a0_2, .int .i64 a0_3, .int .i64 a0_4, .int .i64 a0_5, .int .i64 a0_6, .int .i64 a0_7, .string a0_8, .int .i64 a0_9, .slice A0_10 l0_10.length c0_10] 55 (0, 0)) zas5 hb)
           have n2_ := Aside0.mk (below_step zas2 hb)
           clear HO183
           clear BK180
           clear HB
           have HO183 := n0_
           have BK180 := n1_
           have HB := n2_
           clear n0_ n1_ n2_
           (try clear hb)
           (try clear hb2)
           (try clear hk)
           (try clear hi)
           refine hK.out _ _ ⟨(blk_cell BK180.out 0).trans rfl, (blk_cell BK180.out 1).trans rfl, (blk_cell BK180.out 2).trans rfl, (blk_cell BK180.out 3).trans rfl, (blk_cell BK180.out 4).trans rfl, (blk_cell BK180.out 5).trans rfl, (blk_cell BK180.out 6).trans rfl, (blk_cell BK180.out 7).trans rfl, (blk_cell BK180.out 8).trans rfl, (blk_cell BK180.out 9).trans rfl, (blk_cell BK180.out 10).trans rfl⟩ (fun hHeld => norm_ zas8 ?_)
           clear hK K
           refine pure_ (i := 21) (N := some 44) (v := ?_) (a' := ?_) #[true, true, true, true, true, true, true, true, true, true, true, true, true, true, true, true, true, true, true, true, true, true, false] rfl rfl (any_of HT_.out (by kernel_rfl)) (fun _ _ _ h => h) (Or.inl ⟨by rfl, ?_⟩) ?_ ?_
           rotate_left
           · intro w'
             go_simp
             with_reducible rfl
           rotate_left
           · simp only [Act.put, nS]
             rfl
           refine pure_ (i := 22) (N := some 2) (v := ?_) (a' := ?_) #[true, true, true, true, true, true, true, true, true, true, true, true, true, true, true, true, true, true, true, true, true, true, true] rfl rfl (any_of HT_.out (by kernel_rfl)) (fun _ _ _ h => h) (Or.inl ⟨by rfl, ?_⟩) ?_ ?_
           rotate_left
           · intro w'
             go_simp
             with_reducible rfl
           rotate_left
           · simp only [Act.put, nS]
             rfl
           refine done_ (done_of HT_.out (by kernel_rfl)) ?_
           try go_wp2
           go_ret
           exact ⟨zas11, zas2⟩
         · rw [if_neg c12] at H
           exact absurd H (by simp)
       · rw [if_neg c10] at H
         exact absurd H (by simp)
     · rw [if_neg c8] at H
       exact absurd H (by simp)
   · rw [if_neg c6] at H
     exact absurd H (by simp)
 · rw [if_neg c4] at H
   exact absurd H (by simp)

def relay_Told.l0 : Nat → List ByteArray → List (S55) → Int → Int → Option (ByteArray)
 | 0, _, _, _, _ => none
 | k + 1, x3, x6, x7, x8 => if x8 < x7 then (if 0 ≤ x8 then (if x8 < (x6.length : Int) then ((patch_Encode.f k ((rd_T55 x6 x8).f0) ((rd_T55 x6 x8).f1) ((rd_T55 x6 x8).f2.f0) ((rd_T55 x6 x8).f2.f1) ((rd_T55 x6 x8).f2.f2) ((rd_T55 x6 x8).f3.f0) ((rd_T55 x6 x8).f3.f1) ((rd_T55 x6 x8).f3.f2) ((rd_T55 x6 x8).f4) ((rd_T55 x6 x8).f5) ((rd_T55 x6 x8).f6)).bind fun t192 => (if x3.length < 8796093022208 then (relay_Told.l0 k (x3 ++ [t192]) x6 x7 (wrap64 (x8 + 1))) else (none))) else (none)) else (none)) else ((wire_Text.f k (⟨#[116, 111, 108, 100]⟩ : ByteArray)).bind fun t196 => ((wire_Texts.f k x3).bind fun t197 => (if t196.size + t197.size ≤ 9223372036854775807 then (some (t196 ++ t197)) else (none))))
def relay_Told.f (k : Nat) (l0 : List (S55)) : Option (ByteArray) := relay_Told.l0 k ([] : List ByteArray) l0 (l0.length : Int) 0
set_option maxHeartbeats 8000000 in
set_option maxRecDepth 100000 in
theorem relay_Told.calls (k : Nat) (A0 : Option Addr) (c0 : Nat) (l0 : List (S55)) (r : ByteArray) (w : World) (hr0 : Kd.C k55 w A0 l0.length l0) (hc0 : l0.length ≤ c0) (h : relay_Told.f k l0 = some r) :
 Calls Try.prog 21 #[.slice A0 l0.length c0] w fun e w' => e = .returned (.string r) ∧ Below w.heap.size w w' := by
 have hu55 := Try.underlying55
 have HR0 := Aside0.mk hr0
 have HC0 := Aside0.mk hc0
 clear hr0 hc0
 have HB := Aside0.mk (Below.refl w.heap.size w)
 have H : (relay_Told.l0 k ([] : List ByteArray) l0 (l0.length : Int) 0) = some r := h
 clear h
 have H' := Aside0.mk H
 clear H
 go_enter Try.func21, Try.ntmps21
 go_wp2
 go_loopg [3, 8] k (fun kq v3 v8 w' => ∃ (x3_1 : List ByteArray) (x8_1 : Int), v8 = .int .i64 x8_1 ∧ Aside0 (relay_Told.l0 kq x3_1 l0 (l0.length : Int) x8_1 = some r) ∧ Aside0 (kq ≤ k) ∧ Aside0 (Kd.R Kd.string 9 w' w.heap.size (fun _ => True) v3 x3_1) ∧ Aside0 (Below w.heap.size w w'))
 case atStart => exact ⟨(([] : List ByteArray)), (0), zas14, H', ⟨Nat.le_refl _⟩, ⟨zas19⟩, ⟨zas0⟩⟩
 case round =>
  clear H'
  obtain ⟨x3_1, x8_1, rfl, HA, HK1, HO_3, HB⟩ := hrel
  cases gk with
  | zero => exact absurd HA.out (by simp [relay_Told.l0])
  | succ k1 =>
    have H := HA.out
    clear HA
    simp only [relay_Told.l0] at H
    by_cases c2 : x8_1 < (l0.length : Int)
    · rw [if_pos c2] at H
      have c2b0 : decide (x8_1 < (l0.length : Int)) = true := decide_eq_true c2
      clear c2
      by_cases c3 : 0 ≤ x8_1
      · rw [if_pos c3] at H
        have c3b0 : decide (0 ≤ x8_1) = true := decide_eq_true c3
        clear c3
        by_cases c4 : x8_1 < (l0.length : Int)
        · rw [if_pos c4] at H
          have c4b0 : decide (x8_1 < (l0.length : Int)) = true := decide_eq_true c4
          clear c4
          replace H := Option.bind_eq_some_iff.mp H
          obtain ⟨t192, A50, H⟩ := H
          try dsimp only at H
          have A5 := Aside0.mk A50
          clear A50
          by_cases c6 : x3_1.length < 8796093022208
          · rw [if_pos c6] at H
            have LMc6 := Aside0.mk c6
            clear c6
            obtain ⟨y193, hy193⟩ : ∃ y_ : List ByteArray, y_ = (x3_1 ++ [t192]) := ⟨_, rfl⟩
            replace H : (relay_Told.l0 k1 y193 l0 (l0.length : Int) (wrap64 (x8_1 + 1))) = some r := by first | (rw [hy193]; with_reducible exact H) | (have H2_ := (Option.bind_some _ _).symm.trans H; rw [hy193]; with_reducible exact H2_) | (have H2_ := (Option.bind_some _ _).symm.trans H; with_reducible exact H2_) | with_reducible exact H | (rw [hy193]; exact H) | exact H
            have Ny193 := Aside0.mk hy193
            clear hy193
            have H' := Aside0.mk H
            clear H
            have p190 : 0 ≤ (x8_1 : Int) := of_decide_eq_true zas15
            have q190 : x8_1 < (l0.length : Int) := of_decide_eq_true zas15
            obtain ⟨ad190, A190_10, c190_10, e190, hx190_0, hx190_1, hx190_2, hx190_3, hx190_4, hx190_5, hx190_6, hx190_7, hx190_8, hx190_9, hx190_10, hl190_10, hi190_10⟩ := at_T55 HR0.out x8_1 p190 q190
            cases e190
            replace hx190_0 := (HB.out.cell (World.block_lt_of_cell? w _ hx190_0)).trans hx190_0
            replace hx190_1 := (HB.out.cell (World.block_lt_of_cell? w _ hx190_1)).trans hx190_1
            replace hx190_2 := (HB.out.cell (World.block_lt_of_cell? w _ hx190_2)).trans hx190_2
            replace hx190_3 := (HB.out.cell (World.block_lt_of_cell? w _ hx190_3)).trans hx190_3
            replace hx190_4 := (HB.out.cell (World.block_lt_of_cell? w _ hx190_4)).trans hx190_4
            replace hx190_5 := (HB.out.cell (World.block_lt_of_cell? w _ hx190_5)).trans hx190_5
            replace hx190_6 := (HB.out.cell (World.block_lt_of_cell? w _ hx190_6)).trans hx190_6
            replace hx190_7 := (HB.out.cell (World.block_lt_of_cell? w _ hx190_7)).trans hx190_7
            replace hx190_8 := (HB.out.cell (World.block_lt_of_cell? w _ hx190_8)).trans hx190_8
            replace hx190_9 := (HB.out.cell (World.block_lt_of_cell? w _ hx190_9)).trans hx190_9
            replace hx190_10 := (HB.out.cell (World.block_lt_of_cell? w _ hx190_10)).trans hx190_10
            have HR190_10 := Aside0.mk hi190_10
            have HC190_10 := Aside0.mk hl190_10
            clear hi190_10 hl190_10
            replace p190 := eq_true p190
            replace q190 := eq_true q190
            go_wp2_with (first | ((with_reducible refine gate_dst (N := 5) rfl ?_); refine box_event ?hg (N := 5) ?hd (cs := #[.string (⟨#[]⟩ : ByteArray), .int .i64 0, .int .i64 0, .int .i64 0, .int .i64 0, .int .i64 0, .int .i64 0, .int .i64 0, .string (⟨#[]⟩ : ByteArray), .int .i64 0, .slice none 0 0]) (t := 55) ?hr ?_; (case hd => rfl); (case hg => rfl); (case hr => exact zas16); intro gb191 hg w7 hbox hb; have n0_ := Aside0.mk (Kd.R_below zas4 hb); have n1_ := Aside0.mk (below_step zas0 hb); have n2_ := Aside0.mk (hbox); have n3_ := Aside0.mk ((by rw [hg]; exact (below_size zas0) : w.heap.size ≤ gb191)); have n4_ := Aside0.mk ((by rw [hg]; exact (below_size zas0) : w.heap.size ≤ gb191)); clear HO_3; clear HB; have HO_3 := n0_; have HB := n1_; have BK191 := n2_; have GW191 := n3_; have GE191 := n4_; clear n0_ n1_ n2_ n3_ n4_; clear hb hbox hg; have hcz8_0 : w7.cell? ⟨gb191, 0, none⟩ = some (.string (⟨#[]⟩ : ByteArray)) := (blk_cell BK191.out 0).trans rfl; have hcz8_1 : w7.cell? ⟨gb191, 1, none⟩ = some (.int .i64 0) := (blk_cell BK191.out 1).trans rfl; have hcz8_2 : w7.cell? ⟨gb191, 2, none⟩ = some (.int .i64 0) := (blk_cell BK191.out 2).trans rfl; have hcz8_3 : w7.cell? ⟨gb191, 3, none⟩ = some (.int .i64 0) := (blk_cell BK191.out 3).trans rfl; have hcz8_4 : w7.cell? ⟨gb191, 4, none⟩ = some (.int .i64 0) := (blk_cell BK191.out 4).trans rfl; have hcz8_5 : w7.cell? ⟨gb191, 5, none⟩ = some (.int .i64 0) := (blk_cell BK191.out 5).trans rfl; have hcz8_6 : w7.cell? ⟨gb191, 6, none⟩ = some (.int .i64 0) := (blk_cell BK191.out 6).trans rfl; have hcz8_7 : w7.cell? ⟨gb191, 7, none⟩ = some (.int .i64 0) := (blk_cell BK191.out 7).trans rfl; have hcz8_8 : w7.cell? ⟨gb191, 8, none⟩ = some (.string (⟨#[]⟩ : ByteArray)) := (blk_cell BK191.out 8).trans rfl; have hcz8_9 : w7.cell? ⟨gb191, 9, none⟩ = some (.int .i64 0) := (blk_cell BK191.out 9).trans rfl; have hcz8_10 : w7.cell? ⟨gb191, 10, none⟩ = some (.slice none 0 0) := (blk_cell BK191.out 10).trans rfl; have hfz8_0 := blk_frozen BK191.out 0; have hfz8_1 := blk_frozen BK191.out 1; have hfz8_2 := blk_frozen BK191.out 2; have hfz8_3 := blk_frozen BK191.out 3; have hfz8_4 := blk_frozen BK191.out 4; have hfz8_5 := blk_frozen BK191.out 5; have hfz8_6 := blk_frozen BK191.out 6; have hfz8_7 := blk_frozen BK191.out 7; have hfz8_8 := blk_frozen BK191.out 8; have hfz8_9 := blk_frozen BK191.out 9; have hfz8_10 := blk_frozen BK191.out 10) | ((with_reducible refine gate_callee (f := 37) rfl ?_); refine goesL_ (some 14) rfl rfl Try.func37 (by kernel_rfl) rfl #[.agg #[.string ((rd_T55 l0 x8_1).f0), .int .i64 ((rd_T55 l0 x8_1).f1), .int .i64 ((rd_T55 l0 x8_1).f2.f0), .int .i64 ((rd_T55 l0 x8_1).f2.f1), .int .i64 ((rd_T55 l0 x8_1).f2.f2), .int .i64 ((rd_T55 l0 x8_1).f3.f0), .int .i64 ((rd_T55 l0 x8_1).f3.f1), .int .i64 ((rd_T55 l0 x8_1).f3.f2), .string ((rd_T55 l0 x8_1).f4), .int .i64 ((rd_T55 l0 x8_1).f5), .slice A190_10 ((rd_T55 l0 x8_1).f6).length c190_10]] rfl zas1 ?_; (with_reducible refine (patch_Encode.calls k1 ((rd_T55 l0 x8_1).f0) ((rd_T55 l0 x8_1).f1) ((rd_T55 l0 x8_1).f2.f0) ((rd_T55 l0 x8_1).f2.f1) ((rd_T55 l0 x8_1).f2.f2) ((rd_T55 l0 x8_1).f3.f0) ((rd_T55 l0 x8_1).f3.f1) ((rd_T55 l0 x8_1).f3.f2) ((rd_T55 l0 x8_1).f4) ((rd_T55 l0 x8_1).f5) _ _ ((rd_T55 l0 x8_1).f6) t192 _ ?side1 ?side2 A5.out).mono ?_); (case side1 => exact Kd.C_below HR190_10.out zas7); (case side2 => exact HC190_10.out); rintro e w9 ⟨rfl, hb⟩; refine ⟨_, rfl, ?_⟩; have n0_ := Aside0.mk (Kd.R_below (by (with_reducible repeat (first | apply Kd.R_alloc | apply Kd.R_drewN | apply Kd.R_drew)); exact (Kd.R_mono (Kd.R_far (p := ⟨gb191, 10, none⟩) (Kd.R_far (p := ⟨gb191, 9, none⟩) (Kd.R_far (p := ⟨gb191, 8, none⟩) (Kd.R_far (p := ⟨gb191, 7, none⟩) (Kd.R_far (p := ⟨gb191, 6, none⟩) (Kd.R_far (p := ⟨gb191, 5, none⟩) (Kd.R_far (p := ⟨gb191, 4, none⟩) (Kd.R_far (p := ⟨gb191, 3, none⟩) (Kd.R_far (p := ⟨gb191, 2, none⟩) (Kd.R_far (p := ⟨gb191, 1, none⟩) (Kd.R_far (p := ⟨gb191, 0, none⟩) (Kd.R_types HO_3.out BK191.out (by decide)) (fun _ hk => hk.2) (.string ((rd_T55 l0 x8_1).f0))) (fun _ hk => hk.2) (.int .i64 ((rd_T55 l0 x8_1).f1))) (fun _ hk => hk.2) (.int .i64 ((rd_T55 l0 x8_1).f2.f0))) (fun _ hk => hk.2) (.int .i64 ((rd_T55 l0 x8_1).f2.f1))) (fun _ hk => hk.2) (.int .i64 ((rd_T55 l0 x8_1).f2.f2))) (fun _ hk => hk.2) (.int .i64 ((rd_T55 l0 x8_1).f3.f0))) (fun _ hk => hk.2) (.int .i64 ((rd_T55 l0 x8_1).f3.f1))) (fun _ hk => hk.2) (.int .i64 ((rd_T55 l0 x8_1).f3.f2))) (fun _ hk => hk.2) (.string ((rd_T55 l0 x8_1).f4))) (fun _ hk => hk.2) (.int .i64 ((rd_T55 l0 x8_1).f5))) (fun _ hk => hk.2) (.slice A190_10 ((rd_T55 l0 x8_1).f6).length c190_10)) (fun _ h_ => h_.1))) hb); have n1_ := Aside0.mk (blk_below (g := gb191) (o := .cells #[.string ((rd_T55 l0 x8_1).f0), .int .i64 ((rd_T55 l0 x8_1).f1), .int .i64 ((rd_T55 l0 x8_1).f2.f0), .int .i64 ((rd_T55 l0 x8_1).f2.f1), .int .i64 ((rd_T55 l0 x8_1).f2.f2), .int .i64 ((rd_T55 l0 x8_1).f3.f0), .int .i64 ((rd_T55 l0 x8_1).f3.f1), .int .i64 ((rd_T55 l0 x8_1).f3.f2), .string ((rd_T55 l0 x8_1).f4), .int .i64 ((rd_T55 l0 x8_1).f5), .slice A190_10 ((rd_T55 l0 x8_1).f6).length c190_10] 55 (0, 0)) (by (with_reducible repeat (first | refine blk_drewN ?_ _ | refine blk_drew ?_ | refine blk_alloc ?_ _)); refine blk_put (cs := #[.string ((rd_T55 l0 x8_1).f0), .int .i64 ((rd_T55 l0 x8_1).f1), .int .i64 ((rd_T55 l0 x8_1).f2.f0), .int .i64 ((rd_T55 l0 x8_1).f2.f1), .int .i64 ((rd_T55 l0 x8_1).f2.f2), .int .i64 ((rd_T55 l0 x8_1).f3.f0), .int .i64 ((rd_T55 l0 x8_1).f3.f1), .int .i64 ((rd_T55 l0 x8_1).f3.f2), .string ((rd_T55 l0 x8_1).f4), .int .i64 ((rd_T55 l0 x8_1).f5), .slice none 0 0]) ?_ 10 _ rfl; (with_reducible repeat (first | refine blk_drewN ?_ _ | refine blk_drew ?_ | refine blk_alloc ?_ _)); refine blk_put (cs := #[.string ((rd_T55 l0 x8_1).f0), .int .i64 ((rd_T55 l0 x8_1).f1), .int .i64 ((rd_T55 l0 x8_1).f2.f0), .int .i64 ((rd_T55 l0 x8_1).f2.f1), .int .i64 ((rd_T55 l0 x8_1).f2.f2), .int .i64 ((rd_T55 l0 x8_1).f3.f0), .int .i64 ((rd_T55 l0 x8_1).f3.f1), .int .i64 ((rd_T55 l0 x8_1).f3.f2), .string ((rd_T55 l0 x8_1).f4), .int .i64 0, .slice none 0 0]) ?_ 9 _ rfl; (with_reducible repeat (first | refine blk_drewN ?_ _ | refine blk_drew ?_ | refine blk_alloc ?_ _)); refine blk_put (cs := #[.string ((rd_T55 l0 x8_1).f0), .int .i64 ((rd_T55 l0 x8_1).f1), .int .i64 ((rd_T55 l0 x8_1).f2.f0), .int .i64 ((rd_T55 l0 x8_1).f2.f1), .int .i64 ((rd_T55 l0 x8_1).f2.f2), .int .i64 ((rd_T55 l0 x8_1).f3.f0), .int .i64 ((rd_T55 l0 x8_1).f3.f1), .int .i64 ((rd_T55 l0 x8_1).f3.f2), .string (⟨#[]⟩ : ByteArray), .int .i64 0, .slice none 0 0]) ?_ 8 _ rfl; (with_reducible repeat (first | refine blk_drewN ?_ _ | refine blk_drew ?_ | refine blk_alloc ?_ _)); refine blk_put (cs := #[.string ((rd_T55 l0 x8_1).f0), .int .i64 ((rd_T55 l0 x8_1).f1), .int .i64 ((rd_T55 l0 x8_1).f2.f0), .int .i64 ((rd_T55 l0 x8_1).f2.f1), .int .i64 ((rd_T55 l0 x8_1).f2.f2), .int .i64 ((rd_T55 l0 x8_1).f3.f0), .int .i64 ((rd_T55 l0 x8_1).f3.f1), .int .i64 0, .string (⟨#[]⟩ : ByteArray), .int .i64 0, .slice none 0 0]) ?_ 7 _ rfl; (with_reducible repeat (first | refine blk_drewN ?_ _ | refine blk_drew ?_ | refine blk_alloc ?_ _)); refine blk_put (cs := #[.string ((rd_T55 l0 x8_1).f0), .int .i64 ((rd_T55 l0 x8_1).f1), .int .i64 ((rd_T55 l0 x8_1).f2.f0), .int .i64 ((rd_T55 l0 x8_1).f2.f1), .int .i64 ((rd_T55 l0 x8_1).f2.f2), .int .i64 ((rd_T55 l0 x8_1).f3.f0), .int .i64 0, .int .i64 0, .string (⟨#[]⟩ : ByteArray), .int .i64 0, .slice none 0 0]) ?_ 6 _ rfl; (with_reducible repeat (first | refine blk_drewN ?_ _ | refine blk_drew ?_ | refine blk_alloc ?_ _)); refine blk_put (cs := #[.string ((rd_T55 l0 x8_1).f0), .int .i64 ((rd_T55 l0 x8_1).f1), .int .i64 ((rd_T55 l0 x8_1).f2.f0), .int .i64 ((rd_T55 l0 x8_1).f2.f1), .int .i64 ((rd_T55 l0 x8_1).f2.f2), .int .i64 0, .int .i64 0, .int .i64 0, .string (⟨#[]⟩ : ByteArray), .int .i64 0, .slice none 0 0]) ?_ 5 _ rfl; (with_reducible repeat (first | refine blk_drewN ?_ _ | refine blk_drew ?_ | refine blk_alloc ?_ _)); refine blk_put (cs := #[.string ((rd_T55 l0 x8_1).f0), .int .i64 ((rd_T55 l0 x8_1).f1), .int .i64 ((rd_T55 l0 x8_1).f2.f0), .int .i64 ((rd_T55 l0 x8_1).f2.f1), .int .i64 0, .int .i64 0, .int .i64 0, .int .i64 0, .string (⟨#[]⟩ : ByteArray), .int .i64 0, .slice none 0 0]) ?_ 4 _ rfl; (with_reducible repeat (first | refine blk_drewN ?_ _ | refine blk_drew ?_ | refine blk_alloc ?_ _)); refine blk_put (cs := #[.string ((rd_T55 l0 x8_1).f0), .int .i64 ((rd_T55 l0 x8_1).f1), .int .i64 ((rd_T55 l0 x8_1).f2.f0), .int .i64 0, .int .i64 0, .int .i64 0, .int .i64 0, .int .i64 0, .string (⟨#[]⟩ : ByteArray), .int .i64 0, .slice none 0 0]) ?_ 3 _ rfl; (with_reducible repeat (first | refine blk_drewN ?_ _ | refine blk_drew ?_ | refine blk_alloc ?_ _)); refine blk_put (cs := #[.string ((rd_T55 l0 x8_1).f0), .int .i64 ((rd_T55 l0 x8_1).f1), .int .i64 0, .int .i64 0, .int .i64 0, .int .i64 0, .int .i64 0, .int .i64 0, .string (⟨#[]⟩ : ByteArray), .int .i64 0, .slice none 0 0]) ?_ 2 _ rfl; (with_reducible repeat (first | refine blk_drewN ?_ _ | refine blk_drew ?_ | refine blk_alloc ?_ _)); refine blk_put (cs := #[.string ((rd_T55 l0 x8_1).f0), .int .i64 0, .int .i64 0, .int .i64 0, .int .i64 0, .int .i64 0, .int .i64 0, .int .i64 0, .string (⟨#[]⟩ : ByteArray), .int .i64 0, .slice none 0 0]) ?_ 1 _ rfl; (with_reducible repeat (first | refine blk_drewN ?_ _ | refine blk_drew ?_ | refine blk_alloc ?_ _)); refine blk_put (cs := #[.string (⟨#[]⟩ : ByteArray), .int .i64 0, .int .i64 0, .int .i64 0, .int .i64 0, .int .i64 0, .int .i64 0, .int .i64 0, .string (⟨#[]⟩ : ByteArray), .int .i64 0, .slice none 0 0]) ?_ 0 _ rfl; (with_reducible repeat (first | refine blk_drewN ?_ _ | refine blk_drew ?_ | refine blk_alloc ?_ _)); exact BK191.out) hb); have n2_ := Aside0.mk (below_step zas7 hb); clear HO_3; clear BK191; clear HB; have HO_3 := n0_; have BK191 := n1_; have HB := n2_; clear n0_ n1_ n2_; (try clear hb); (try clear hb2); (try clear hk); (try clear hi)) | ((with_reducible refine gate_builtin (b := .append) (xs := #[.tmp 12, .tmp 15]) rfl ?_); at_builtin; refine Kd.R_append Kd.string (w0 := w) w.heap.size rfl (.tmp 12) (.tmp 15) 53 9 (.string ⟨#[]⟩) 16 rfl Try.underlying53 info9 rfl (by decide) (by omega) u3 x3_1 t192 [.string t192] (fun _ => True) (fun _ => False) rfl rfl ?aP (fun _ hk => hk.elim) ?aF ?aO ?aB ?aS ?aL ?_; (case aP => exact rfl); (case aB => exact zas7); (case aF => exact (fun _ _ => trivial)); (case aO => exact zas4); (case aS => exact (below_size zas7)); (case aL => have := LMc6.out; omega); intro v194 w10 ho hb hg hat; rw [← Ny193.out] at ho; have n0_ := Aside0.mk (blk_grown (g := gb191) (o := .cells #[.string ((rd_T55 l0 x8_1).f0), .int .i64 ((rd_T55 l0 x8_1).f1), .int .i64 ((rd_T55 l0 x8_1).f2.f0), .int .i64 ((rd_T55 l0 x8_1).f2.f1), .int .i64 ((rd_T55 l0 x8_1).f2.f2), .int .i64 ((rd_T55 l0 x8_1).f3.f0), .int .i64 ((rd_T55 l0 x8_1).f3.f1), .int .i64 ((rd_T55 l0 x8_1).f3.f2), .string ((rd_T55 l0 x8_1).f4), .int .i64 ((rd_T55 l0 x8_1).f5), .slice A190_10 ((rd_T55 l0 x8_1).f6).length c190_10] 55 (0, 0)) (by (with_reducible repeat (first | refine blk_drewN ?_ _ | refine blk_drew ?_ | refine blk_alloc ?_ _)); exact BK191.out) hg (Kd.R_ne HO_3.out BK191.out (by decide))); have n1_ := Aside0.mk (hb); have n2_ := Aside0.mk (ho); clear BK191; clear HB; clear HO_3; have BK191 := n0_; have HB := n1_; have HO195 := n2_; clear n0_ n1_ n2_; clear ho hb hg hat))
            go_roundg k1
            case measure => have := HK1.out; omega
            case rel => exact ⟨(y193), (wrap64 (x8_1 + 1)), zas14, H', ⟨by have := HK1.out; omega⟩, ⟨by (with_reducible repeat (first | apply Kd.R_alloc | apply Kd.R_drewN | apply Kd.R_drew)); exact HO195.out⟩, ⟨zas7⟩⟩
          · rw [if_neg c6] at H
            exact absurd H (by simp)
        · rw [if_neg c4] at H
          exact absurd H (by simp)
      · rw [if_neg c3] at H
        exact absurd H (by simp)
    · rw [if_neg c2] at H
      have c2b0 : decide (x8_1 < (l0.length : Int)) = false := decide_eq_false c2
      clear c2
      replace H := Option.bind_eq_some_iff.mp H
      obtain ⟨t196, A110, H⟩ := H
      try dsimp only at H
      have A11 := Aside0.mk A110
      clear A110
      replace H := Option.bind_eq_some_iff.mp H
      obtain ⟨t197, A120, H⟩ := H
      try dsimp only at H
      have A12 := Aside0.mk A120
      clear A120
      by_cases c13 : t196.size + t197.size ≤ 9223372036854775807
      · rw [if_pos c13] at H
        have c13b0 := eq_true c13
        have c13b1 : decide (t196.size + t197.size ≤ 9223372036854775807) = true := decide_eq_true c13
        try have c13b2 : (9223372036854775807 < t196.size + t197.size) = False := eq_false (Nat.not_lt.2 c13)
        obtain rfl := Option.some.inj H
        go_wp2_with (first | ((with_reducible refine gate_callee (f := 49) rfl ?_); refine goesL_ (some 18) rfl rfl Try.func49 (by kernel_rfl) rfl #[.string (⟨#[116, 111, 108, 100]⟩ : ByteArray)] rfl zas1 ?_; (with_reducible refine (wire_Text.calls k1 (⟨#[116, 111, 108, 100]⟩ : ByteArray) t196 _ A11.out).mono ?_); rintro e w14 ⟨rfl, hb⟩; refine ⟨_, rfl, ?_⟩; have n0_ := Aside0.mk (Kd.R_below zas4 hb); have n1_ := Aside0.mk (below_step zas0 hb); clear HO_3; clear HB; have HO_3 := n0_; have HB := n1_; clear n0_ n1_; (try clear hb); (try clear hb2); (try clear hk); (try clear hi); obtain ⟨Ao15, co15, eo15⟩ := Kd.R_slice HO_3.out; subst eo15) | ((with_reducible refine gate_callee (f := 60) rfl ?_); refine goesL_ (some 20) rfl rfl Try.func60 (by kernel_rfl) rfl #[.slice Ao15 x3_1.length co15] rfl zas1 ?_; (with_reducible refine (wire_Texts.calls k1 _ _ x3_1 t197 _ ?side1 ?side2 A12.out).mono ?_); (case side1 => exact zas17); (case side2 => exact (Kd.R_reads' HO_3.out).2.1); rintro e w16 ⟨rfl, hb⟩; refine ⟨_, rfl, ?_⟩; have n0_ := Aside0.mk (Kd.R_below zas4 hb); have n1_ := Aside0.mk (below_step zas0 hb); clear HO_3; clear HB; have HO_3 := n0_; have HB := n1_; clear n0_ n1_; (try clear hb); (try clear hb2); (try clear hk); (try clear hi)))
        go_ret
        exact ⟨zas11, zas0⟩
      · rw [if_neg c13] at H
        exact absurd H (by simp)

def abugidaref25_Encode.f (k : Nat) (a0_0 : ByteArray) (a0_1 : Int) (a0_2 : Int) (a0_3 : Int) (a0_4 : Int) (a0_5 : Int) (a0_6 : Int) (a0_7 : Int) (a0_8 : ByteArray) (a0_9 : Int) (l0_10 : List ByteArray) : Option (ByteArray) := (abugidaref02_Ints.f k (([a0_2, a0_3, a0_4, a0_5, a0_6, a0_7] : List Int))).bind fun t336 => ((abugidaref02_Text.f k a0_0).bind fun t337 => ((abugidaref02_Int.f k a0_1).bind fun t338 => (if t337.size + t338.size ≤ 9223372036854775807 then (if (t337 ++ t338).size + t336.size ≤ 9223372036854775807 then ((abugidaref02_Text.f k a0_8).bind fun t339 => (if ((t337 ++ t338) ++ t336).size + t339.size ≤ 9223372036854775807 then ((abugidaref02_Int.f k a0_9).bind fun t340 => (if (((t337 ++ t338) ++ t336) ++ t339).size + t340.size ≤ 9223372036854775807 then ((abugidaref02_Texts.f k l0_10).bind fun t341 => (if ((((t337 ++ t338) ++ t336) ++ t339) ++ t340).size + t341.size ≤ 9223372036854775807 then (some (((((t337 ++ t338) ++ t336) ++ t339) ++ t340) ++ t341)) else (none))) else (none))) else (none))) else (none)) else (none))))
def abugidaref25_Encode.T2 : Bool × List (List Nat × List Nat) := (true, [([], []), ([0], [0]), ([1], [1]), ([], []), ([3], [3]), ([4, 2], [4]), ([2, 5], [2, 5]), ([], []), ([6, 7], [6, 7]), ([], []), ([9], [9]), ([10, 5], [10]), ([8, 11], [8, 11]), ([], []), ([13], [13]), ([14, 11], [14]), ([12, 15], [12, 15]), ([], []), ([17], [17]), ([18, 15], [18]), ([16, 19], [16, 19]), ([20, 19, 0, 1, 2, 3, 4, 5, 6, 7, 8, 9, 10, 11, 12, 13, 14, 15, 16, 17, 18, 19, 20], [20])])
def abugidaref25_Encode.B2 : List Nat := [0, 1, 3, 0, 8, 31, 63, 0, 255, 0, 512, 1599, 4095, 0, 8192, 28223, 65535, 0, 131072, 454207, 1048575, 2097151]
theorem abugidaref25_Encode.tab2 : rtab .any (opsOf Try.f63 2) = abugidaref25_Encode.T2 := by kernel_rfl
theorem abugidaref25_Encode.bits2 : waitsOk abugidaref25_Encode.T2.2 abugidaref25_Encode.B2 = true := by kernel_rfl
set_option maxHeartbeats 8000000 in
set_option maxRecDepth 100000 in
theorem abugidaref25_Encode.calls (k : Nat) (a0_0 : ByteArray) (a0_1 : Int) (a0_2 : Int) (a0_3 : Int) (a0_4 : Int) (a0_5 : Int) (a0_6 : Int) (a0_7 : Int) (a0_8 : ByteArray) (a0_9 : Int) (A0_10 : Option Addr) (c0_10 : Nat) (l0_10 : List ByteArray) (r : ByteArray) (w : World) (hr0_10 : Kd.C Kd.string w A0_10 l0_10.length l0_10) (hc0_10 : l0_10.length ≤ c0_10) (h : abugidaref25_Encode.f k a0_0 a0_1 a0_2 a0_3 a0_4 a0_5 a0_6 a0_7 a0_8 a0_9 l0_10 = some r) :
 Calls Try.prog 63 #[.agg #[.string a0_0, .int .i64 a0_1, .int .i64 a0_2, .int .i64 a0_3, .int .i64 a0_4, .int .i64 a0_5, .int .i64 a0_6, .int .i64 a0_7, .string a0_8, .int .i64 a0_9, .slice A0_10 l0_10.length c0_10]] w fun e w' => e = .returned (.string r) ∧ Below w.heap.size w w' := by
 have hu55 := Try.underlying55
 have HR0_10 := Aside0.mk hr0_10
 have HC0_10 := Aside0.mk hc0_10
 clear hr0_10 hc0_10
 have HB := Aside0.mk (Below.refl w.heap.size w)
 have H : ((abugidaref02_Ints.f k (([a0_2, a0_3, a0_4, a0_5, a0_6, a0_7] : List Int))).bind fun t336 => ((abugidaref02_Text.f k a0_0).bind fun t337 => ((abugidaref02_Int.f k a0_1).bind fun t338 => (if t337.size + t338.size ≤ 9223372036854775807 then (if (t337 ++ t338).size + t336.size ≤ 9223372036854775807 then ((abugidaref02_Text.f k a0_8).bind fun t339 => (if ((t337 ++ t338) ++ t336).size + t339.size ≤ 9223372036854775807 then ((abugidaref02_Int.f k a0_9).bind fun t340 => (if (((t337 ++ t338) ++ t336) ++ t339).size + t340.size ≤ 9223372036854775807 then ((abugidaref02_Texts.f k l0_10).bind fun t341 => (if ((((t337 ++ t338) ++ t336) ++ t339) ++ t340).size + t341.size ≤ 9223372036854775807 then (some (((((t337 ++ t338) ++ t336) ++ t339) ++ t340) ++ t341)) else (none))) else (none))) else (none))) else (none)) else (none))))) = some r := h
 clear h
 obtain ⟨y333, hy333⟩ : ∃ y_ : List Int, y_ = (([a0_2, a0_3, a0_4, a0_5, a0_6, a0_7] : List Int)) := ⟨_, rfl⟩
 replace H : ((abugidaref02_Ints.f k y333).bind fun t336 => ((abugidaref02_Text.f k a0_0).bind fun t337 => ((abugidaref02_Int.f k a0_1).bind fun t338 => (if t337.size + t338.size ≤ 9223372036854775807 then (if (t337 ++ t338).size + t336.size ≤ 9223372036854775807 then ((abugidaref02_Text.f k a0_8).bind fun t339 => (if ((t337 ++ t338) ++ t336).size + t339.size ≤ 9223372036854775807 then ((abugidaref02_Int.f k a0_9).bind fun t340 => (if (((t337 ++ t338) ++ t336) ++ t339).size + t340.size ≤ 9223372036854775807 then ((abugidaref02_Texts.f k l0_10).bind fun t341 => (if ((((t337 ++ t338) ++ t336) ++ t339) ++ t340).size + t341.size ≤ 9223372036854775807 then (some (((((t337 ++ t338) ++ t336) ++ t339) ++ t340) ++ t341)) else (none))) else (none))) else (none))) else (none)) else (none))))) = some r := by first | (rw [hy333]; with_reducible exact H) | (have H2_ := (Option.bind_some _ _).symm.trans H; rw [hy333]; with_reducible exact H2_) | (have H2_ := (Option.bind_some _ _).symm.trans H; with_reducible exact H2_) | with_reducible exact H | (rw [hy333]; exact H) | exact H
 have Ny333 := Aside0.mk hy333
 clear hy333
 replace H := Option.bind_eq_some_iff.mp H
 obtain ⟨t336, A20, H⟩ := H
 try dsimp only at H
 have A2 := Aside0.mk A20
 clear A20
 replace H := Option.bind_eq_some_iff.mp H
 obtain ⟨t337, A30, H⟩ := H
 try dsimp only at H
 have A3 := Aside0.mk A30
 clear A30
 replace H := Option.bind_eq_some_iff.mp H
 obtain ⟨t338, A40, H⟩ := H
 try dsimp only at H
 have A4 := Aside0.mk A40
 clear A40
 by_cases c5 : t337.size + t338.size ≤ 9223372036854775807
 · rw [if_pos c5] at H
   have c5b0 := eq_true c5
   have c5b1 : decide (t337.size + t338.size ≤ 9223372036854775807) = true := decide_eq_true c5
   try have c5b2 : (9223372036854775807 < t337.size + t338.size) = False := eq_false (Nat.not_lt.2 c5)
   by_cases c6 : (t337 ++ t338).size + t336.size ≤ 9223372036854775807
   · rw [if_pos c6] at H
     have c6b0 := eq_true c6
     have c6b1 : decide ((t337 ++ t338).size + t336.size ≤ 9223372036854775807) = true := decide_eq_true c6
     try have c6b2 : (9223372036854775807 < (t337 ++ t338).size + t336.size) = False := eq_false (Nat.not_lt.2 c6)
     try (have c6e := c6; simp only [ByteArray.size_append] at c6e; have c6e1 := eq_true c6e; have c6e2 := eq_false (Nat.not_lt.2 c6e); clear c6e)
     replace H := Option.bind_eq_some_iff.mp H
     obtain ⟨t339, A70, H⟩ := H
     try dsimp only at H
     have A7 := Aside0.mk A70
     clear A70
     by_cases c8 : ((t337 ++ t338) ++ t336).size + t339.size ≤ 9223372036854775807
     · rw [if_pos c8] at H
       have c8b0 := eq_true c8
       have c8b1 : decide (((t337 ++ t338) ++ t336).size + t339.size ≤ 9223372036854775807) = true := decide_eq_true c8
       try have c8b2 : (9223372036854775807 < ((t337 ++ t338) ++ t336).size + t339.size) = False := eq_false (Nat.not_lt.2 c8)
       try (have c8e := c8; simp only [ByteArray.size_append] at c8e; have c8e1 := eq_true c8e; have c8e2 := eq_false (Nat.not_lt.2 c8e); clear c8e)
       replace H := Option.bind_eq_some_iff.mp H
       obtain ⟨t340, A90, H⟩ := H
       try dsimp only at H
       have A9 := Aside0.mk A90
       clear A90
       by_cases c10 : (((t337 ++ t338) ++ t336) ++ t339).size + t340.size ≤ 9223372036854775807
       · rw [if_pos c10] at H
         have c10b0 := eq_true c10
         have c10b1 : decide ((((t337 ++ t338) ++ t336) ++ t339).size + t340.size ≤ 9223372036854775807) = true := decide_eq_true c10
         try have c10b2 : (9223372036854775807 < (((t337 ++ t338) ++ t336) ++ t339).size + t340.size) = False := eq_false (Nat.not_lt.2 c10)
         try (have c10e := c10; simp only [ByteArray.size_append] at c10e; have c10e1 := eq_true c10e; have c10e2 := eq_false (Nat.not_lt.2 c10e); clear c10e)
         replace H := Option.bind_eq_some_iff.mp H
         obtain ⟨t341, A110, H⟩ := H
         try dsimp only at H
         have A11 := Aside0.mk A110
         clear A110
         by_cases c12 : ((((t337 ++ t338) ++ t336) ++ t339) ++ t340).size + t341.size ≤ 9223372036854775807
         · rw [if_pos c12] at H
           have c12b0 := eq_true c12
           have c12b1 : decide (((((t337 ++ t338) ++ t336) ++ t339) ++ t340).size + t341.size ≤ 9223372036854775807) = true := decide_eq_true c12
           try have c12b2 : (9223372036854775807 < ((((t337 ++ t338) ++ t336) ++ t339) ++ t340).size + t341.size) = False := eq_false (Nat.not_lt.2 c12)
           try (have c12e := c12; simp only [ByteArray.size_append] at c12e; have c12e1 := eq_true c12e; have c12e2 := eq_false (Nat.not_lt.2 c12e); clear c12e)
           obtain rfl := Option.some.inj H
           go_enter Try.func63, Try.ntmps63
           try go_wp2_with (first | ((with_reducible refine gate_dst (N := 1) rfl ?_); refine box_event ?hg (N := 1) ?hd (cs := #[.string a0_0, .int .i64 a0_1, .int .i64 a0_2, .int .i64 a0_3, .int .i64 a0_4, .int .i64 a0_5, .int .i64 a0_6, .int .i64 a0_7, .string a0_8, .int .i64 a0_9, .slice A0_10 l0_10.length c0_10]) (t := 55) ?hr ?_; (case hd => rfl); (case hg => rfl); (case hr => exact zas16); intro gb332 hg w13 hbox hb; have n0_ := Aside0.mk (below_step zas0 hb); have n1_ := Aside0.mk (hbox); have n2_ := Aside0.mk ((by rw [hg]; exact (below_size zas0) : w.heap.size ≤ gb332)); have n3_ := Aside0.mk ((by rw [hg]; exact (below_size zas0) : w.heap.size ≤ gb332)); clear HB; have HB := n0_; have BK332 := n1_; have GW332 := n2_; have GE332 := n3_; clear n0_ n1_ n2_ n3_; clear hb hbox hg; have hcz14_0 : w13.cell? ⟨gb332, 0, none⟩ = some (.string a0_0) := (blk_cell BK332.out 0).trans rfl; have hcz14_1 : w13.cell? ⟨gb332, 1, none⟩ = some (.int .i64 a0_1) := (blk_cell BK332.out 1).trans rfl; have hcz14_2 : w13.cell? ⟨gb332, 2, none⟩ = some (.int .i64 a0_2) := (blk_cell BK332.out 2).trans rfl; have hcz14_3 : w13.cell? ⟨gb332, 3, none⟩ = some (.int .i64 a0_3) := (blk_cell BK332.out 3).trans rfl; have hcz14_4 : w13.cell? ⟨gb332, 4, none⟩ = some (.int .i64 a0_4) := (blk_cell BK332.out 4).trans rfl; have hcz14_5 : w13.cell? ⟨gb332, 5, none⟩ = some (.int .i64 a0_5) := (blk_cell BK332.out 5).trans rfl; have hcz14_6 : w13.cell? ⟨gb332, 6, none⟩ = some (.int .i64 a0_6) := (blk_cell BK332.out 6).trans rfl; have hcz14_7 : w13.cell? ⟨gb332, 7, none⟩ = some (.int .i64 a0_7) := (blk_cell BK332.out 7).trans rfl; have hcz14_8 : w13.cell? ⟨gb332, 8, none⟩ = some (.string a0_8) := (blk_cell BK332.out 8).trans rfl; have hcz14_9 : w13.cell? ⟨gb332, 9, none⟩ = some (.int .i64 a0_9) := (blk_cell BK332.out 9).trans rfl; have hcz14_10 : w13.cell? ⟨gb332, 10, none⟩ = some (.slice A0_10 l0_10.length c0_10) := (blk_cell BK332.out 10).trans rfl; have hfz14_0 := blk_frozen BK332.out 0; have hfz14_1 := blk_frozen BK332.out 1; have hfz14_2 := blk_frozen BK332.out 2; have hfz14_3 := blk_frozen BK332.out 3; have hfz14_4 := blk_frozen BK332.out 4; have hfz14_5 := blk_frozen BK332.out 5; have hfz14_6 := blk_frozen BK332.out 6; have hfz14_7 := blk_frozen BK332.out 7; have hfz14_8 := blk_frozen BK332.out 8; have hfz14_9 := blk_frozen BK332.out 9; have hfz14_10 := blk_frozen BK332.out 10) | ((with_reducible refine gate_dst (N := 22) rfl ?_); refine Kd.R_lit (Kd.int .i64) _ 3 ?hg (N := 22) ?hd (xs := ([a0_2, a0_3, a0_4, a0_5, a0_6, a0_7] : List Int)) (inner := [.int .i64 a0_2, .int .i64 a0_3, .int .i64 a0_4, .int .i64 a0_5, .int .i64 a0_6, .int .i64 a0_7]) (ok := fun _ => True) (okp := fun _ => True) ?hr ?hp (fun _ hk => hk) trivial (Below.refl _ _) (Nat.le_refl _) (by simp) ?_; (case hd => rfl); (case hg => rfl); (case hr => exact zas16); (case hp => exact zas12); intro v334 w15 ho16 hb hg_ hnew_; clear hg_ hnew_; (first | rw [← Ny333.out] at ho16 | (simp only [Int.reduceToNat] at ho16; rw [← Ny333.out] at ho16)); have n0_ := Aside0.mk (Kd.R_lower ho16 (below_size zas3)); have n1_ := Aside0.mk (blk_below (g := gb332) (o := .cells #[.string a0_0, .int .i64 a0_1, .int .i64 a0_2, .int .i64 a0_3, .int .i64 a0_4, .int .i64 a0_5, .int .i64 a0_6, .int .i64 a0_7, .string a0_8, .int .i64 a0_9, .slice A0_10 l0_10.length c0_10] 55 (0, 0)) zas6 hb); have n2_ := Aside0.mk (below_step zas3 hb); clear BK332; clear HB; have HO335 := n0_; have BK332 := n1_; have HB := n2_; clear n0_ n1_ n2_; clear hb ho16; obtain ⟨Ao17, co17, eo17⟩ := Kd.R_slice HO335.out; subst eo17) | ((with_reducible refine gate_callee (f := 54) rfl ?_); refine goesL_ (some 23) rfl rfl Try.func54 (by kernel_rfl) rfl #[.slice Ao17 y333.length co17] rfl zas1 ?_; (with_reducible refine (abugidaref02_Ints.calls k _ _ y333 t336 _ ?side1 ?side2 A2.out).mono ?_); (case side1 => repeat (first | exact (Kd.R_reads' HO335.out).2.2 | (with_reducible refine Kd.C_alloc ?_ _) | (with_reducible refine Kd.C_drewN ?_ _) | (with_reducible refine Kd.C_drew ?_))); (case side2 => exact (Kd.R_reads' HO335.out).2.1); rintro e w18 ⟨rfl, hb⟩; refine ⟨_, rfl, ?_⟩; have n0_ := Aside0.mk (Kd.R_below zas10 hb); have n1_ := Aside0.mk (blk_below (g := gb332) (o := .cells #[.string a0_0, .int .i64 a0_1, .int .i64 a0_2, .int .i64 a0_3, .int .i64 a0_4, .int .i64 a0_5, .int .i64 a0_6, .int .i64 a0_7, .string a0_8, .int .i64 a0_9, .slice A0_10 l0_10.length c0_10] 55 (0, 0)) zas6 hb); have n2_ := Aside0.mk (below_step zas3 hb); clear HO335; clear BK332; clear HB; have HO335 := n0_; have BK332 := n1_; have HB := n2_; clear n0_ n1_ n2_; (try clear hb); (try clear hb2); (try clear hk); (try clear hi)))
           have n0_ := Aside0.mk (Kd.R_drew HO335.out)
           have n1_ := Aside0.mk (blk_drew BK332.out)
           have n2_ := Aside0.mk (below_drew1 HB.out)
           clear HO335
           clear BK332
           clear HB
           have HO335 := n0_
           have BK332 := n1_
           have HB := n2_
           clear n0_ n1_ n2_
           refine start_ (n := 22) (S := fun w' => w'.cell? ⟨gb332, 0, none⟩ = some (.string a0_0) ∧ w'.cell? ⟨gb332, 1, none⟩ = some (.int .i64 a0_1) ∧ w'.cell? ⟨gb332, 2, none⟩ = some (.int .i64 a0_2) ∧ w'.cell? ⟨gb332, 3, none⟩ = some (.int .i64 a0_3) ∧ w'.cell? ⟨gb332, 4, none⟩ = some (.int .i64 a0_4) ∧ w'.cell? ⟨gb332, 5, none⟩ = some (.int .i64 a0_5) ∧ w'.cell? ⟨gb332, 6, none⟩ = some (.int .i64 a0_6) ∧ w'.cell? ⟨gb332, 7, none⟩ = some (.int .i64 a0_7) ∧ w'.cell? ⟨gb332, 8, none⟩ = some (.string a0_8) ∧ w'.cell? ⟨gb332, 9, none⟩ = some (.int .i64 a0_9) ∧ w'.cell? ⟨gb332, 10, none⟩ = some (.slice A0_10 l0_10.length c0_10)) (ds := []) #[false, false, false, false, false, false, false, false, false, false, false, false, false, false, false, false, false, false, false, false, false, false] (by kernel_rfl) rfl rfl ⟨(blk_cell BK332.out 0).trans rfl, (blk_cell BK332.out 1).trans rfl, (blk_cell BK332.out 2).trans rfl, (blk_cell BK332.out 3).trans rfl, (blk_cell BK332.out 4).trans rfl, (blk_cell BK332.out 5).trans rfl, (blk_cell BK332.out 6).trans rfl, (blk_cell BK332.out 7).trans rfl, (blk_cell BK332.out 8).trans rfl, (blk_cell BK332.out 9).trans rfl, (blk_cell BK332.out 10).trans rfl⟩ (fun hHeld => ?_); refine with_tabW abugidaref25_Encode.tab2 abugidaref25_Encode.bits2 (fun HT_ HW_ => ?_)
           generalize w18.drew = w19 at HO335 BK332 HB hHeld ⊢
           refine pure_ (i := 0) (N := some 24) (v := ?_) (a' := ?_) #[true, false, false, false, false, false, false, false, false, false, false, false, false, false, false, false, false, false, false, false, false, false] rfl rfl (any_of HT_.out (by kernel_rfl)) (fun _ _ _ h => h) (Or.inl ⟨by rfl, ?_⟩) ?_ ?_
           rotate_left
           · intro w'
             go_simp
             with_reducible rfl
           rotate_left
           · simp only [Act.put, nS]
             rfl
           refine pure_ (i := 3) (N := some 27) (v := ?_) (a' := ?_) #[true, false, false, true, false, false, false, false, false, false, false, false, false, false, false, false, false, false, false, false, false, false] rfl rfl (any_of HT_.out (by kernel_rfl)) (fun _ _ _ h => h) (Or.inl ⟨by rfl, ?_⟩) ?_ ?_
           rotate_left
           · intro w'
             go_simp
             with_reducible rfl
           rotate_left
           · simp only [Act.put, nS]
             rfl
           refine pure_ (i := 7) (N := some 31) (v := ?_) (a' := ?_) #[true, false, false, true, false, false, false, true, false, false, false, false, false, false, false, false, false, false, false, false, false, false] rfl rfl (any_of HT_.out (by kernel_rfl)) (fun _ _ _ h => h) (Or.inl ⟨by rfl, ?_⟩) ?_ ?_
           rotate_left
           · intro w'
             go_simp
             with_reducible rfl
           rotate_left
           · simp only [Act.put, nS]
             rfl
           refine pure_ (i := 9) (N := some 33) (v := ?_) (a' := ?_) #[true, false, false, true, false, false, false, true, false, true, false, false, false, false, false, false, false, false, false, false, false, false] rfl rfl (any_of HT_.out (by kernel_rfl)) (fun _ _ _ h => h) (Or.inl ⟨by rfl, ?_⟩) ?_ ?_
           rotate_left
           · intro w'
             go_simp
             with_reducible rfl
           rotate_left
           · simp only [Act.put, nS]
             rfl
           refine pure_ (i := 13) (N := some 37) (v := ?_) (a' := ?_) #[true, false, false, true, false, false, false, true, false, true, false, false, false, true, false, false, false, false, false, false, false, false] rfl rfl (any_of HT_.out (by kernel_rfl)) (fun _ _ _ h => h) (Or.inl ⟨by rfl, ?_⟩) ?_ ?_
           rotate_left
           · intro w'
             go_simp
             with_reducible rfl
           rotate_left
           · simp only [Act.put, nS]
             rfl
           refine pure_ (i := 17) (N := some 41) (v := ?_) (a' := ?_) #[true, false, false, true, false, false, false, true, false, true, false, false, false, true, false, false, false, true, false, false, false, false] rfl rfl (any_of HT_.out (by kernel_rfl)) (fun _ _ _ h => h) (Or.inl ⟨by rfl, ?_⟩) ?_ ?_
           rotate_left
           · intro w'
             go_simp
             with_reducible rfl
           rotate_left
           · simp only [Act.put, nS]
             rfl
           refine take_ (i := 1) (N := some 25) (v := ?_) (a' := ?_) #[true, true, false, true, false, false, false, true, false, true, false, false, false, true, false, false, false, true, false, false, false, false] rfl rfl (take_ofW HT_.out HW_.out (by kernel_rfl)) (fun _ _ _ h => h) (Or.inl ⟨by rfl, ?_⟩) hHeld ?_ ?_
           rotate_left
           · rintro w' ⟨s0, s1, s2, s3, s4, s5, s6, s7, s8, s9, s10⟩
             go_simp
             with_reducible rfl
           rotate_left
           · simp only [Act.put, nS]
             rfl
           refine take_ (i := 4) (N := some 28) (v := ?_) (a' := ?_) #[true, true, false, true, true, false, false, true, false, true, false, false, false, true, false, false, false, true, false, false, false, false] rfl rfl (take_ofW HT_.out HW_.out (by kernel_rfl)) (fun _ _ _ h => h) (Or.inl ⟨by rfl, ?_⟩) hHeld ?_ ?_
           rotate_left
           · rintro w' ⟨s0, s1, s2, s3, s4, s5, s6, s7, s8, s9, s10⟩
             go_simp
             with_reducible rfl
           rotate_left
           · simp only [Act.put, nS]
             rfl
           refine take_ (i := 10) (N := some 34) (v := ?_) (a' := ?_) #[true, true, false, true, true, false, false, true, false, true, true, false, false, true, false, false, false, true, false, false, false, false] rfl rfl (take_ofW HT_.out HW_.out (by kernel_rfl)) (fun _ _ _ h => h) (Or.inl ⟨by rfl, ?_⟩) hHeld ?_ ?_
           rotate_left
           · rintro w' ⟨s0, s1, s2, s3, s4, s5, s6, s7, s8, s9, s10⟩
             go_simp
             with_reducible rfl
           rotate_left
           · simp only [Act.put, nS]
             rfl
           refine take_ (i := 14) (N := some 38) (v := ?_) (a' := ?_) #[true, true, false, true, true, false, false, true, false, true, true, false, false, true, true, false, false, true, false, false, false, false] rfl rfl (take_ofW HT_.out HW_.out (by kernel_rfl)) (fun _ _ _ h => h) (Or.inl ⟨by rfl, ?_⟩) hHeld ?_ ?_
           rotate_left
           · rintro w' ⟨s0, s1, s2, s3, s4, s5, s6, s7, s8, s9, s10⟩
             go_simp
             with_reducible rfl
           rotate_left
           · simp only [Act.put, nS]
             rfl
           refine take_ (i := 18) (N := some 42) (v := ?_) (a' := ?_) #[true, true, false, true, true, false, false, true, false, true, true, false, false, true, true, false, false, true, true, false, false, false] rfl rfl (take_ofW HT_.out HW_.out (by kernel_rfl)) (fun _ _ _ h => h) (Or.inl ⟨by rfl, ?_⟩) hHeld ?_ ?_
           rotate_left
           · rintro w' ⟨s0, s1, s2, s3, s4, s5, s6, s7, s8, s9, s10⟩
             go_simp
             with_reducible rfl
           rotate_left
           · simp only [Act.put, nS]
             rfl
           refine one_ (i := 2) (N := some 26) #[true, true, true, true, true, false, false, true, false, true, true, false, false, true, true, false, false, true, true, false, false, false] rfl rfl (one_of HT_.out (by kernel_rfl)) (by decide) (fun K hK => ?_)
           refine goes_ Try.func52 (by kernel_rfl) rfl #[.string a0_0] (by rfl) rfl rfl zas1 ?_
           with_reducible refine (abugidaref02_Text.calls k a0_0 t337 _ A3.out).mono ?_
           rintro e w20 ⟨rfl, hb⟩
           refine ⟨_, rfl, ?_⟩
           have n0_ := Aside0.mk (Kd.R_below zas10 hb)
           have n1_ := Aside0.mk (blk_below (g := gb332) (o := .cells #[.string a0_0, .int .i64 a0_1, .int .i64 a0_2, .int .i64 a0_3, .int .i64 a0_4, .int .i64 a0_5, .int .i64 a0_6, .int .i64 a0_7, .string a0_8, .int .i64 a0_9, .slice A0_10 l0_10.length c0_10] 55 (0, 0)) zas6 hb)
           have n2_ := Aside0.mk (below_step zas3 hb)
           clear HO335
           clear BK332
           clear HB
           have HO335 := n0_
           have BK332 := n1_
           have HB := n2_
           clear n0_ n1_ n2_
           (try clear hb)
           (try clear hb2)
           (try clear hk)
           (try clear hi)
           refine hK.out _ _ ⟨(blk_cell BK332.out 0).trans rfl, (blk_cell BK332.out 1).trans rfl, (blk_cell BK332.out 2).trans rfl, (blk_cell BK332.out 3).trans rfl, (blk_cell BK332.out 4).trans rfl, (blk_cell BK332.out 5).trans rfl, (blk_cell BK332.out 6).trans rfl, (blk_cell BK332.out 7).trans rfl, (blk_cell BK332.out 8).trans rfl, (blk_cell BK332.out 9).trans rfl, (blk_cell BK332.out 10).trans rfl⟩ (fun hHeld => norm_ zas8 ?_)
           clear hK K
           refine one_ (i := 5) (N := some 29) #[true, true, true, true, true, true, false, true, false, true, true, false, false, true, true, false, false, true, true, false, false, false] rfl rfl (one_of HT_.out (by kernel_rfl)) (by decide) (fun K hK => ?_)
           refine goes_ Try.func53 (by kernel_rfl) rfl #[.int .i64 a0_1] (by rfl) rfl rfl zas1 ?_
           with_reducible refine (abugidaref02_Int.calls k a0_1 t338 _ A4.out).mono ?_
           rintro e w21 ⟨rfl, hb⟩
           refine ⟨_, rfl, ?_⟩
           have n0_ := Aside0.mk (Kd.R_below zas10 hb)
           have n1_ := Aside0.mk (blk_below (g := gb332) (o := .cells #[.string a0_0, .int .i64 a0_1, .int .i64 a0_2, .int .i64 a0_3, .int .i64 a0_4, .int .i64 a0_5, .int .i64 a0_6, .int .i64 a0_7, .string a0_8, .int .i64 a0_9, .slice A0_10 l0_10.length c0_10] 55 (0, 0)) zas6 hb)
           have n2_ := Aside0.mk (below_step zas3 hb)
           clear HO335
           clear BK332
           clear HB
           have HO335 := n0_
           have BK332 := n1_
           have HB := n2_
           clear n0_ n1_ n2_
           (try clear hb)
           (try clear hb2)
           (try clear hk)
           (try clear hi)
           refine hK.out _ _ ⟨(blk_cell BK332.out 0).trans rfl, (blk_cell BK332.out 1).trans rfl, (blk_cell BK332.out 2).trans rfl, (blk_cell BK332.out 3).trans rfl, (blk_cell BK332.out 4).trans rfl, (blk_cell BK332.out 5).trans rfl, (blk_cell BK332.out 6).trans rfl, (blk_cell BK332.out 7).trans rfl, (blk_cell BK332.out 8).trans rfl, (blk_cell BK332.out 9).trans rfl, (blk_cell BK332.out 10).trans rfl⟩ (fun hHeld => norm_ zas8 ?_)
           clear hK K
           refine pure_ (i := 6) (N := some 30) (v := ?_) (a' := ?_) #[true, true, true, true, true, true, true, true, false, true, true, false, false, true, true, false, false, true, true, false, false, false] rfl rfl (any_of HT_.out (by kernel_rfl)) (fun _ _ _ h => h) (Or.inl ⟨by rfl, ?_⟩) ?_ ?_
           rotate_left
           · intro w'
             go_simp
             with_reducible rfl
           rotate_left
           · simp only [Act.put, nS]
             rfl
           refine pure_ (i := 8) (N := some 32) (v := ?_) (a' := ?_) #[true, true, true, true, true, true, true, true, true, true, true, false, false, true, true, false, false, true, true, false, false, false] rfl rfl (any_of HT_.out (by kernel_rfl)) (fun _ _ _ h => h) (Or.inl ⟨by rfl, ?_⟩) ?_ ?_
           rotate_left
           · intro w'
             go_simp
             with_reducible rfl
           rotate_left
           · simp only [Act.put, nS]
             rfl
           refine one_ (i := 11) (N := some 35) #[true, true, true, true, true, true, true, true, true, true, true, true, false, true, true, false, false, true, true, false, false, false] rfl rfl (one_of HT_.out (by kernel_rfl)) (by decide) (fun K hK => ?_)
           refine goes_ Try.func52 (by kernel_rfl) rfl #[.string a0_8] (by rfl) rfl rfl zas1 ?_
           with_reducible refine (abugidaref02_Text.calls k a0_8 t339 _ A7.out).mono ?_
           rintro e w22 ⟨rfl, hb⟩
           refine ⟨_, rfl, ?_⟩
           have n0_ := Aside0.mk (Kd.R_below zas10 hb)
           have n1_ := Aside0.mk (blk_below (g := gb332) (o := .cells #[.string a0_0, .int .i64 a0_1, .int .i64 a0_2, .int .i64 a0_3, .int .i64 a0_4, .int .i64 a0_5, .int .i64 a0_6, .int .i64 a0_7, .string a0_8, .int .i64 a0_9, .slice A0_10 l0_10.length c0_10] 55 (0, 0)) zas6 hb)
           have n2_ := Aside0.mk (below_step zas3 hb)
           clear HO335
           clear BK332
           clear HB
           have HO335 := n0_
           have BK332 := n1_
           have HB := n2_
           clear n0_ n1_ n2_
           (try clear hb)
           (try clear hb2)
           (try clear hk)
           (try clear hi)
           refine hK.out _ _ ⟨(blk_cell BK332.out 0).trans rfl, (blk_cell BK332.out 1).trans rfl, (blk_cell BK332.out 2).trans rfl, (blk_cell BK332.out 3).trans rfl, (blk_cell BK332.out 4).trans rfl, (blk_cell BK332.out 5).trans rfl, (blk_cell BK332.out 6).trans rfl, (blk_cell BK332.out 7).trans rfl, (blk_cell BK332.out 8).trans rfl, (blk_cell BK332.out 9).trans rfl, (blk_cell BK332.out 10).trans rfl⟩ (fun hHeld => norm_ zas8 ?_)
           clear hK K
           refine pure_ (i := 12) (N := some 36) (v := ?_) (a' := ?_) #[true, true, true, true, true, true, true, true, true, true, true, true, true, true, true, false, false, true, true, false, false, false] rfl rfl (any_of HT_.out (by kernel_rfl)) (fun _ _ _ h => h) (Or.inl ⟨by rfl, ?_⟩) ?_ ?_
           rotate_left
           · intro w'
             go_simp
             with_reducible rfl
           rotate_left
           · simp only [Act.put, nS]
             rfl
           refine one_ (i := 15) (N := some 39) #[true, true, true, true, true, true, true, true, true, true, true, true, true, true, true, true, false, true, true, false, false, false] rfl rfl (one_of HT_.out (by kernel_rfl)) (by decide) (fun K hK => ?_)
           refine goes_ Try.func53 (by kernel_rfl) rfl #[.int .i64 a0_9] (by rfl) rfl rfl zas1 ?_
           with_reducible refine (abugidaref02_Int.calls k a0_9 t340 _ A9.out).mono ?_
           rintro e w23 ⟨rfl, hb⟩
           refine ⟨_, rfl, ?_⟩
           have n0_ := Aside0.mk (Kd.R_below zas10 hb)
           have n1_ := Aside0.mk (blk_below (g := gb332) (o := .cells #[.string a0_0, .int .i64 a0_1, .int .i64 a0_2, .int .i64 a0_3, .int .i64 a0_4, .int .i64 a0_5, .int .i64 a0_6, .int .i64 a0_7, .string a0_8, .int .i64 a0_9, .slice A0_10 l0_10.length c0_10] 55 (0, 0)) zas6 hb)
           have n2_ := Aside0.mk (below_step zas3 hb)
           clear HO335
           clear BK332
           clear HB
           have HO335 := n0_
           have BK332 := n1_
           have HB := n2_
           clear n0_ n1_ n2_
           (try clear hb)
           (try clear hb2)
           (try clear hk)
           (try clear hi)
           refine hK.out _ _ ⟨(blk_cell BK332.out 0).trans rfl, (blk_cell BK332.out 1).trans rfl, (blk_cell BK332.out 2).trans rfl, (blk_cell BK332.out 3).trans rfl, (blk_cell BK332.out 4).trans rfl, (blk_cell BK332.out 5).trans rfl, (blk_cell BK332.out 6).trans rfl, (blk_cell BK332.out 7).trans rfl, (blk_cell BK332.out 8).trans rfl, (blk_cell BK332.out 9).trans rfl, (blk_cell BK332.out 10).trans rfl⟩ (fun hHeld => norm_ zas8 ?_)
           clear hK K
           refine pure_ (i := 16) (N := some 40) (v := ?_) (a' := ?_) #[true, true, true, true, true, true, true, true, true, true, true, true, true, true, true, true, true, true, true, false, false, false] rfl rfl (any_of HT_.out (by kernel_rfl)) (fun _ _ _ h => h) (Or.inl ⟨by rfl, ?_⟩) ?_ ?_
           rotate_left
           · intro w'
             go_simp
             with_reducible rfl
           rotate_left
           · simp only [Act.put, nS]
             rfl
           refine one_ (i := 19) (N := some 43) #[true, true, true, true, true, true, true, true, true, true, true, true, true, true, true, true, true, true, true, true, false, false] rfl rfl (one_of HT_.out (by kernel_rfl)) (by decide) (fun K hK => ?_)
           refine goes_ Try.func64 (by kernel_rfl) rfl #[.slice A0_10 l0_10.length c0_10] (by rfl) rfl rfl zas1 ?_
           with_reducible refine (abugidaref02_Texts.calls k _ _ l0_10 t341 _ ?side1 ?side2 A11.out).mono ?_
           (case side1 => exact zas13)
           (case side2 => exact HC0_10.out)
           rintro e w24 ⟨rfl, hb⟩
           refine ⟨_, rfl, ?_⟩
           have n0_ := Aside0.mk (Kd.R_below zas10 hb)
           have n1_ := Aside0.mk (blk_below (g := gb332) (o := .cells #[.string a0_0, .int .i64 a0_1, .int .i64 a0_2, .int .i64 a0_3, .int .i64 a0_4, .int .i64 a0_5, .int .i64 a0_6, .int .i64 a0_7, .string a0_8, .int .i64 a0_9, .slice A0_10 l0_10.length c0_10] 55 (0, 0)) zas6 hb)
           have n2_ := Aside0.mk (below_step zas3 hb)
           clear HO335
           clear BK332
           clear HB
           have HO335 := n0_
           have BK332 := n1_
           have HB := n2_
           clear n0_ n1_ n2_
           (try clear hb)
           (try clear hb2)
           (try clear hk)
           (try clear hi)
           refine hK.out _ _ ⟨(blk_cell BK332.out 0).trans rfl, (blk_cell BK332.out 1).trans rfl, (blk_cell BK332.out 2).trans rfl, (blk_cell BK332.out 3).trans rfl, (blk_cell BK332.out 4).trans rfl, (blk_cell BK332.out 5).trans rfl, (blk_cell BK332.out 6).trans rfl, (blk_cell BK332.out 7).trans rfl, (blk_cell BK332.out 8).trans rfl, (blk_cell BK332.out 9).trans rfl, (blk_cell BK332.out 10).trans rfl⟩ (fun hHeld => norm_ zas8 ?_)
           clear hK K
           refine pure_ (i := 20) (N := some 44) (v := ?_) (a' := ?_) #[true, true, true, true, true, true, true, true, true, true, true, true, true, true, true, true, true, true, true, true, true, false] rfl rfl (any_of HT_.out (by kernel_rfl)) (fun _ _ _ h => h) (Or.inl ⟨by rfl, ?_⟩) ?_ ?_
           rotate_left
           · intro w'
             go_simp
             with_reducible rfl
           rotate_left
           · simp only [Act.put, nS]
             rfl
           refine pure_ (i := 21) (N := some 2) (v := ?_) (a' := ?_) #[true, true, true, true, true, true, true, true, true, true, true, true, true, true, true, true, true, true, true, true, true, true] rfl rfl (any_of HT_.out (by kernel_rfl)) (fun _ _ _ h => h) (Or.inl ⟨by rfl, ?_⟩) ?_ ?_
           rotate_left
           · intro w'
             go_simp
             with_reducible rfl
           rotate_left
           · simp only [Act.put, nS]
             rfl
           refine done_ (done_of HT_.out (by kernel_rfl)) ?_
           try go_wp2
           go_ret
           exact ⟨zas11, zas3⟩
         · rw [if_neg c12] at H
           exact absurd H (by simp)
       · rw [if_neg c10] at H
         exact absurd H (by simp)
     · rw [if_neg c8] at H
       exact absurd H (by simp)
   · rw [if_neg c6] at H
     exact absurd H (by simp)
 · rw [if_neg c5] at H
   exact absurd H (by simp)

def abugidaref35_Told.l0 : Nat → List (S55) → List ByteArray → Int → Option (ByteArray)
 | 0, _, _, _ => none
 | k + 1, x0, x3, x4 => if x4 < (x0.length : Int) then (if 0 ≤ x4 then ((abugidaref25_Encode.f k ((rd_T55 x0 x4).f0) ((rd_T55 x0 x4).f1) ((rd_T55 x0 x4).f2.f0) ((rd_T55 x0 x4).f2.f1) ((rd_T55 x0 x4).f2.f2) ((rd_T55 x0 x4).f3.f0) ((rd_T55 x0 x4).f3.f1) ((rd_T55 x0 x4).f3.f2) ((rd_T55 x0 x4).f4) ((rd_T55 x0 x4).f5) ((rd_T55 x0 x4).f6)).bind fun t343 => (if x3.length < 8796093022208 then (abugidaref35_Told.l0 k x0 (x3 ++ [t343]) (wrap64 (x4 + 1))) else (none))) else (none)) else ((abugidaref02_Text.f k (⟨#[116, 111, 108, 100]⟩ : ByteArray)).bind fun t347 => ((abugidaref02_Texts.f k x3).bind fun t348 => (if t347.size + t348.size ≤ 9223372036854775807 then (some (t347 ++ t348)) else (none))))
def abugidaref35_Told.f (k : Nat) (l0 : List (S55)) : Option (ByteArray) := abugidaref35_Told.l0 k l0 ([] : List ByteArray) 0
set_option maxHeartbeats 8000000 in
set_option maxRecDepth 100000 in
theorem abugidaref35_Told.calls (k : Nat) (A0 : Option Addr) (c0 : Nat) (l0 : List (S55)) (r : ByteArray) (w : World) (hr0 : Kd.C k55 w A0 l0.length l0) (hc0 : l0.length ≤ c0) (h : abugidaref35_Told.f k l0 = some r) :
 Calls Try.prog 23 #[.slice A0 l0.length c0] w fun e w' => e = .returned (.string r) ∧ Below w.heap.size w w' := by
 have hu55 := Try.underlying55
 have HR0 := Aside0.mk hr0
 have HC0 := Aside0.mk hc0
 clear hr0 hc0
 have HB := Aside0.mk (Below.refl w.heap.size w)
 have H : (abugidaref35_Told.l0 k l0 ([] : List ByteArray) 0) = some r := h
 clear h
 have H' := Aside0.mk H
 clear H
 go_enter Try.func23, Try.ntmps23
 go_wp2
 go_loopg [3, 4] k (fun kq v3 v4 w' => ∃ (x3_1 : List ByteArray) (x4_1 : Int), v4 = .int .i64 x4_1 ∧ Aside0 (abugidaref35_Told.l0 kq l0 x3_1 x4_1 = some r) ∧ Aside0 (kq ≤ k) ∧ Aside0 (Kd.R Kd.string 9 w' w.heap.size (fun _ => True) v3 x3_1) ∧ Aside0 (Below w.heap.size w w'))
 case atStart => exact ⟨(([] : List ByteArray)), (0), zas14, H', ⟨Nat.le_refl _⟩, ⟨zas19⟩, ⟨zas0⟩⟩
 case round =>
  clear H'
  obtain ⟨x3_1, x4_1, rfl, HA, HK1, HO_3, HB⟩ := hrel
  cases gk with
  | zero => exact absurd HA.out (by simp [abugidaref35_Told.l0])
  | succ k1 =>
    have H := HA.out
    clear HA
    simp only [abugidaref35_Told.l0] at H
    by_cases c2 : x4_1 < (l0.length : Int)
    · rw [if_pos c2] at H
      have c2b0 : decide (x4_1 < (l0.length : Int)) = true := decide_eq_true c2
      clear c2
      by_cases c3 : 0 ≤ x4_1
      · rw [if_pos c3] at H
        have c3b0 : decide (0 ≤ x4_1) = true := decide_eq_true c3
        clear c3
        replace H := Option.bind_eq_some_iff.mp H
        obtain ⟨t343, A40, H⟩ := H
        try dsimp only at H
        have A4 := Aside0.mk A40
        clear A40
        by_cases c5 : x3_1.length < 8796093022208
        · rw [if_pos c5] at H
          have LMc5 := Aside0.mk c5
          clear c5
          obtain ⟨y344, hy344⟩ : ∃ y_ : List ByteArray, y_ = (x3_1 ++ [t343]) := ⟨_, rfl⟩
          replace H : (abugidaref35_Told.l0 k1 l0 y344 (wrap64 (x4_1 + 1))) = some r := by first | (rw [hy344]; with_reducible exact H) | (have H2_ := (Option.bind_some _ _).symm.trans H; rw [hy344]; with_reducible exact H2_) | (have H2_ := (Option.bind_some _ _).symm.trans H; with_reducible exact H2_) | with_reducible exact H | (rw [hy344]; exact H) | exact H
          have Ny344 := Aside0.mk hy344
          clear hy344
          have H' := Aside0.mk H
          clear H
          have p342 : 0 ≤ (x4_1 : Int) := of_decide_eq_true zas15
          have q342 : x4_1 < (l0.length : Int) := of_decide_eq_true zas15
          obtain ⟨ad342, A342_10, c342_10, e342, hx342_0, hx342_1, hx342_2, hx342_3, hx342_4, hx342_5, hx342_6, hx342_7, hx342_8, hx342_9, hx342_10, hl342_10, hi342_10⟩ := at_T55 HR0.out x4_1 p342 q342
          cases e342
          replace hx342_0 := (HB.out.cell (World.block_lt_of_cell? w _ hx342_0)).trans hx342_0
          replace hx342_1 := (HB.out.cell (World.block_lt_of_cell? w _ hx342_1)).trans hx342_1
          replace hx342_2 := (HB.out.cell (World.block_lt_of_cell? w _ hx342_2)).trans hx342_2
          replace hx342_3 := (HB.out.cell (World.block_lt_of_cell? w _ hx342_3)).trans hx342_3
          replace hx342_4 := (HB.out.cell (World.block_lt_of_cell? w _ hx342_4)).trans hx342_4
          replace hx342_5 := (HB.out.cell (World.block_lt_of_cell? w _ hx342_5)).trans hx342_5
          replace hx342_6 := (HB.out.cell (World.block_lt_of_cell? w _ hx342_6)).trans hx342_6
          replace hx342_7 := (HB.out.cell (World.block_lt_of_cell? w _ hx342_7)).trans hx342_7
          replace hx342_8 := (HB.out.cell (World.block_lt_of_cell? w _ hx342_8)).trans hx342_8
          replace hx342_9 := (HB.out.cell (World.block_lt_of_cell? w _ hx342_9)).trans hx342_9
          replace hx342_10 := (HB.out.cell (World.block_lt_of_cell? w _ hx342_10)).trans hx342_10
          have HR342_10 := Aside0.mk hi342_10
          have HC342_10 := Aside0.mk hl342_10
          clear hi342_10 hl342_10
          replace p342 := eq_true p342
          replace q342 := eq_true q342
          go_wp2_with (first | ((with_reducible refine gate_callee (f := 63) rfl ?_); refine goesL_ (some 16) rfl rfl Try.func63 (by kernel_rfl) rfl #[.agg #[.string ((rd_T55 l0 x4_1).f0), .int .i64 ((rd_T55 l0 x4_1).f1), .int .i64 ((rd_T55 l0 x4_1).f2.f0), .int .i64 ((rd_T55 l0 x4_1).f2.f1), .int .i64 ((rd_T55 l0 x4_1).f2.f2), .int .i64 ((rd_T55 l0 x4_1).f3.f0), .int .i64 ((rd_T55 l0 x4_1).f3.f1), .int .i64 ((rd_T55 l0 x4_1).f3.f2), .string ((rd_T55 l0 x4_1).f4), .int .i64 ((rd_T55 l0 x4_1).f5), .slice A342_10 ((rd_T55 l0 x4_1).f6).length c342_10]] rfl zas1 ?_; (with_reducible refine (abugidaref25_Encode.calls k1 ((rd_T55 l0 x4_1).f0) ((rd_T55 l0 x4_1).f1) ((rd_T55 l0 x4_1).f2.f0) ((rd_T55 l0 x4_1).f2.f1) ((rd_T55 l0 x4_1).f2.f2) ((rd_T55 l0 x4_1).f3.f0) ((rd_T55 l0 x4_1).f3.f1) ((rd_T55 l0 x4_1).f3.f2) ((rd_T55 l0 x4_1).f4) ((rd_T55 l0 x4_1).f5) _ _ ((rd_T55 l0 x4_1).f6) t343 _ ?side1 ?side2 A4.out).mono ?_); (case side1 => repeat (first | exact (Kd.C_below HR342_10.out HB.out) | (with_reducible refine Kd.C_alloc ?_ _) | (with_reducible refine Kd.C_drewN ?_ _) | (with_reducible refine Kd.C_drew ?_))); (case side2 => exact HC342_10.out); rintro e w6 ⟨rfl, hb⟩; refine ⟨_, rfl, ?_⟩; have n0_ := Aside0.mk (Kd.R_below zas4 hb); have n1_ := Aside0.mk (below_step zas0 hb); clear HO_3; clear HB; have HO_3 := n0_; have HB := n1_; clear n0_ n1_; (try clear hb); (try clear hb2); (try clear hk); (try clear hi)) | ((with_reducible refine gate_builtin (b := .append) (xs := #[.tmp 11, .tmp 17]) rfl ?_); at_builtin; refine Kd.R_append Kd.string (w0 := w) w.heap.size rfl (.tmp 11) (.tmp 17) 53 9 (.string ⟨#[]⟩) 16 rfl Try.underlying53 info9 rfl (by decide) (by omega) u3 x3_1 t343 [.string t343] (fun _ => True) (fun _ => False) rfl rfl ?aP (fun _ hk => hk.elim) ?aF ?aO ?aB ?aS ?aL ?_; (case aP => exact rfl); (case aB => exact zas0); (case aF => exact (fun _ _ => trivial)); (case aO => exact zas4); (case aS => exact (below_size zas0)); (case aL => have := LMc5.out; omega); intro v345 w7 ho hb hg hat; rw [← Ny344.out] at ho; have n0_ := Aside0.mk (hb); have n1_ := Aside0.mk (ho); clear HB; clear HO_3; have HB := n0_; have HO346 := n1_; clear n0_ n1_; clear ho hb hg hat))
          go_roundg k1
          case measure => have := HK1.out; omega
          case rel => exact ⟨(y344), (wrap64 (x4_1 + 1)), zas14, H', ⟨by have := HK1.out; omega⟩, ⟨by (with_reducible repeat (first | apply Kd.R_alloc | apply Kd.R_drewN | apply Kd.R_drew)); exact HO346.out⟩, ⟨zas0⟩⟩
        · rw [if_neg c5] at H
          exact absurd H (by simp)
      · rw [if_neg c3] at H
        exact absurd H (by simp)
    · rw [if_neg c2] at H
      have c2b0 : decide (x4_1 < (l0.length : Int)) = false := decide_eq_false c2
      clear c2
      replace H := Option.bind_eq_some_iff.mp H
      obtain ⟨t347, A80, H⟩ := H
      try dsimp only at H
      have A8 := Aside0.mk A80
      clear A80
      replace H := Option.bind_eq_some_iff.mp H
      obtain ⟨t348, A90, H⟩ := H
      try dsimp only at H
      have A9 := Aside0.mk A90
      clear A90
      by_cases c10 : t347.size + t348.size ≤ 9223372036854775807
      · rw [if_pos c10] at H
        have c10b0 := eq_true c10
        have c10b1 : decide (t347.size + t348.size ≤ 9223372036854775807) = true := decide_eq_true c10
        try have c10b2 : (9223372036854775807 < t347.size + t348.size) = False := eq_false (Nat.not_lt.2 c10)
        obtain rfl := Option.some.inj H
        go_wp2_with (first | ((with_reducible refine gate_callee (f := 52) rfl ?_); refine goesL_ (some 19) rfl rfl Try.func52 (by kernel_rfl) rfl #[.string (⟨#[116, 111, 108, 100]⟩ : ByteArray)] rfl zas1 ?_; (with_reducible refine (abugidaref02_Text.calls k1 (⟨#[116, 111, 108, 100]⟩ : ByteArray) t347 _ A8.out).mono ?_); rintro e w11 ⟨rfl, hb⟩; refine ⟨_, rfl, ?_⟩; have n0_ := Aside0.mk (Kd.R_below zas4 hb); have n1_ := Aside0.mk (below_step zas0 hb); clear HO_3; clear HB; have HO_3 := n0_; have HB := n1_; clear n0_ n1_; (try clear hb); (try clear hb2); (try clear hk); (try clear hi); obtain ⟨Ao12, co12, eo12⟩ := Kd.R_slice HO_3.out; subst eo12) | ((with_reducible refine gate_callee (f := 64) rfl ?_); refine goesL_ (some 21) rfl rfl Try.func64 (by kernel_rfl) rfl #[.slice Ao12 x3_1.length co12] rfl zas1 ?_; (with_reducible refine (abugidaref02_Texts.calls k1 _ _ x3_1 t348 _ ?side1 ?side2 A9.out).mono ?_); (case side1 => exact zas17); (case side2 => exact (Kd.R_reads' HO_3.out).2.1); rintro e w13 ⟨rfl, hb⟩; refine ⟨_, rfl, ?_⟩; have n0_ := Aside0.mk (Kd.R_below zas4 hb); have n1_ := Aside0.mk (below_step zas0 hb); clear HO_3; clear HB; have HO_3 := n0_; have HB := n1_; clear n0_ n1_; (try clear hb); (try clear hb2); (try clear hk); (try clear hi)))
        go_ret
        exact ⟨zas11, zas0⟩
      · rw [if_neg c10] at H
        exact absurd H (by simp)

def abugidaref35_size.f (k : Nat) (a0_0 : ByteArray) (a0_1 : Int) (a0_2 : Int) (a0_3 : Int) (a0_4 : Int) (a0_5 : Int) (a0_6 : Int) (a0_7 : Int) (a0_8 : ByteArray) (a0_9 : Int) (l0_10 : List ByteArray) : Option (Int) := (abugidaref25_Encode.f k a0_0 a0_1 a0_2 a0_3 a0_4 a0_5 a0_6 a0_7 a0_8 a0_9 l0_10).bind fun t530 => (some (t530.size : Int))
set_option maxHeartbeats 8000000 in
set_option maxRecDepth 100000 in
theorem abugidaref35_size.calls (k : Nat) (a0_0 : ByteArray) (a0_1 : Int) (a0_2 : Int) (a0_3 : Int) (a0_4 : Int) (a0_5 : Int) (a0_6 : Int) (a0_7 : Int) (a0_8 : ByteArray) (a0_9 : Int) (A0_10 : Option Addr) (c0_10 : Nat) (l0_10 : List ByteArray) (r : Int) (w : World) (hr0_10 : Kd.C Kd.string w A0_10 l0_10.length l0_10) (hc0_10 : l0_10.length ≤ c0_10) (h : abugidaref35_size.f k a0_0 a0_1 a0_2 a0_3 a0_4 a0_5 a0_6 a0_7 a0_8 a0_9 l0_10 = some r) :
 Calls Try.prog 75 #[.agg #[.string a0_0, .int .i64 a0_1, .int .i64 a0_2, .int .i64 a0_3, .int .i64 a0_4, .int .i64 a0_5, .int .i64 a0_6, .int .i64 a0_7, .string a0_8, .int .i64 a0_9, .slice A0_10 l0_10.length c0_10]] w fun e w' => e = .returned (.int .i64 r) ∧ Below w.heap.size w w' := by
 have hu55 := Try.underlying55
 have HR0_10 := Aside0.mk hr0_10
 have HC0_10 := Aside0.mk hc0_10
 clear hr0_10 hc0_10
 have HB := Aside0.mk (Below.refl w.heap.size w)
 have H : ((abugidaref25_Encode.f k a0_0 a0_1 a0_2 a0_3 a0_4 a0_5 a0_6 a0_7 a0_8 a0_9 l0_10).bind fun t530 => (some (t530.size : Int))) = some r := h
 clear h
 replace H := Option.bind_eq_some_iff.mp H
 obtain ⟨t530, A20, H⟩ := H
 try dsimp only at H
 have A2 := Aside0.mk A20
 clear A20
 obtain rfl := Option.some.inj H
 go_enter Try.func75, Try.ntmps75
 go_wp2_with (first | ((with_reducible refine gate_dst (N := 1) rfl ?_); refine box_event ?hg (N := 1) ?hd (cs := #[.string a0_0, .int .i64 a0_1, .int .i64 a0_2, .int .i64 a0_3, .int .i64 a0_4, .int .i64 a0_5, .int .i64 a0_6, .int .i64 a0_7, .string a0_8, .int .i64 a0_9, .slice A0_10 l0_10.length c0_10]) (t := 55) ?hr ?_; (case hd => rfl); (case hg => rfl); (case hr => exact zas16); intro gb529 hg w3 hbox hb; have n0_ := Aside0.mk (below_step zas0 hb); have n1_ := Aside0.mk (hbox); have n2_ := Aside0.mk ((by rw [hg]; exact (below_size zas0) : w.heap.size ≤ gb529)); have n3_ := Aside0.mk ((by rw [hg]; exact (below_size zas0) : w.heap.size ≤ gb529)); clear HB; have HB := n0_; have BK529 := n1_; have GW529 := n2_; have GE529 := n3_; clear n0_ n1_ n2_ n3_; clear hb hbox hg; have hcz4_0 : w3.cell? ⟨gb529, 0, none⟩ = some (.string a0_0) := (blk_cell BK529.out 0).trans rfl; have hcz4_1 : w3.cell? ⟨gb529, 1, none⟩ = some (.int .i64 a0_1) := (blk_cell BK529.out 1).trans rfl; have hcz4_2 : w3.cell? ⟨gb529, 2, none⟩ = some (.int .i64 a0_2) := (blk_cell BK529.out 2).trans rfl; have hcz4_3 : w3.cell? ⟨gb529, 3, none⟩ = some (.int .i64 a0_3) := (blk_cell BK529.out 3).trans rfl; have hcz4_4 : w3.cell? ⟨gb529, 4, none⟩ = some (.int .i64 a0_4) := (blk_cell BK529.out 4).trans rfl; have hcz4_5 : w3.cell? ⟨gb529, 5, none⟩ = some (.int .i64 a0_5) := (blk_cell BK529.out 5).trans rfl; have hcz4_6 : w3.cell? ⟨gb529, 6, none⟩ = some (.int .i64 a0_6) := (blk_cell BK529.out 6).trans rfl; have hcz4_7 : w3.cell? ⟨gb529, 7, none⟩ = some (.int .i64 a0_7) := (blk_cell BK529.out 7).trans rfl; have hcz4_8 : w3.cell? ⟨gb529, 8, none⟩ = some (.string a0_8) := (blk_cell BK529.out 8).trans rfl; have hcz4_9 : w3.cell? ⟨gb529, 9, none⟩ = some (.int .i64 a0_9) := (blk_cell BK529.out 9).trans rfl; have hcz4_10 : w3.cell? ⟨gb529, 10, none⟩ = some (.slice A0_10 l0_10.length c0_10) := (blk_cell BK529.out 10).trans rfl; have hfz4_0 := blk_frozen BK529.out 0; have hfz4_1 := blk_frozen BK529.out 1; have hfz4_2 := blk_frozen BK529.out 2; have hfz4_3 := blk_frozen BK529.out 3; have hfz4_4 := blk_frozen BK529.out 4; have hfz4_5 := blk_frozen BK529.out 5; have hfz4_6 := blk_frozen BK529.out 6; have hfz4_7 := blk_frozen BK529.out 7; have hfz4_8 := blk_frozen BK529.out 8; have hfz4_9 := blk_frozen BK529.out 9; have hfz4_10 := blk_frozen BK529.out 10) | ((with_reducible refine gate_callee (f := 63) rfl ?_); refine goesL_ (some 4) rfl rfl Try.func63 (by kernel_rfl) rfl #[.agg #[.string a0_0, .int .i64 a0_1, .int .i64 a0_2, .int .i64 a0_3, .int .i64 a0_4, .int .i64 a0_5, .int .i64 a0_6, .int .i64 a0_7, .string a0_8, .int .i64 a0_9, .slice A0_10 l0_10.length c0_10]] rfl zas1 ?_; (with_reducible refine (abugidaref25_Encode.calls k a0_0 a0_1 a0_2 a0_3 a0_4 a0_5 a0_6 a0_7 a0_8 a0_9 _ _ l0_10 t530 _ ?side1 ?side2 A2.out).mono ?_); (case side1 => exact zas13); (case side2 => exact HC0_10.out); rintro e w5 ⟨rfl, hb⟩; refine ⟨_, rfl, ?_⟩; have n0_ := Aside0.mk (blk_below (g := gb529) (o := .cells #[.string a0_0, .int .i64 a0_1, .int .i64 a0_2, .int .i64 a0_3, .int .i64 a0_4, .int .i64 a0_5, .int .i64 a0_6, .int .i64 a0_7, .string a0_8, .int .i64 a0_9, .slice A0_10 l0_10.length c0_10] 55 (0, 0)) (by (with_reducible repeat (first | refine blk_drewN ?_ _ | refine blk_drew ?_ | refine blk_alloc ?_ _)); exact BK529.out) hb); have n1_ := Aside0.mk (below_step zas18 hb); clear BK529; clear HB; have BK529 := n0_; have HB := n1_; clear n0_ n1_; (try clear hb); (try clear hb2); (try clear hk); (try clear hi)))
 go_ret
 exact ⟨zas11, zas18⟩

def abugidaref35_sum.l0 : Nat → List (S55) → Int → Int → Option (Int)
 | 0, _, _, _ => none
 | k + 1, x0, x3, x4 => if x4 < (x0.length : Int) then (if 0 ≤ x4 then ((abugidaref35_size.f k ((rd_T55 x0 x4).f0) ((rd_T55 x0 x4).f1) ((rd_T55 x0 x4).f2.f0) ((rd_T55 x0 x4).f2.f1) ((rd_T55 x0 x4).f2.f2) ((rd_T55 x0 x4).f3.f0) ((rd_T55 x0 x4).f3.f1) ((rd_T55 x0 x4).f3.f2) ((rd_T55 x0 x4).f4) ((rd_T55 x0 x4).f5) ((rd_T55 x0 x4).f6)).bind fun t532 => (abugidaref35_sum.l0 k x0 (wrap64 (x3 + t532)) (wrap64 (x4 + 1)))) else (none)) else (some x3)
def abugidaref35_sum.f (k : Nat) (l0 : List (S55)) : Option (Int) := abugidaref35_sum.l0 k l0 0 0
set_option maxHeartbeats 8000000 in
set_option maxRecDepth 100000 in
theorem abugidaref35_sum.calls (k : Nat) (A0 : Option Addr) (c0 : Nat) (l0 : List (S55)) (r : Int) (w : World) (hr0 : Kd.C k55 w A0 l0.length l0) (hc0 : l0.length ≤ c0) (h : abugidaref35_sum.f k l0 = some r) :
 Calls Try.prog 76 #[.slice A0 l0.length c0] w fun e w' => e = .returned (.int .i64 r) ∧ Below w.heap.size w w' := by
 have hu55 := Try.underlying55
 have HR0 := Aside0.mk hr0
 have HC0 := Aside0.mk hc0
 clear hr0 hc0
 have HB := Aside0.mk (Below.refl w.heap.size w)
 have H : (abugidaref35_sum.l0 k l0 0 0) = some r := h
 clear h
 have H' := Aside0.mk H
 clear H
 go_enter Try.func76, Try.ntmps76
 go_wp2
 go_loopg [3, 4] k (fun kq v3 v4 w' => ∃ (x3_1 : Int) (x4_1 : Int), v3 = .int .i64 x3_1 ∧ v4 = .int .i64 x4_1 ∧ Aside0 (abugidaref35_sum.l0 kq l0 x3_1 x4_1 = some r) ∧ Aside0 (kq ≤ k) ∧ Aside0 (Below w.heap.size w w'))
 case atStart => exact ⟨(0), (0), zas14, zas14, H', ⟨Nat.le_refl _⟩, ⟨zas0⟩⟩
 case round =>
  clear H'
  obtain ⟨x3_1, x4_1, rfl, rfl, HA, HK1, HB⟩ := hrel
  cases gk with
  | zero => exact absurd HA.out (by simp [abugidaref35_sum.l0])
  | succ k1 =>
    have H := HA.out
    clear HA
    simp only [abugidaref35_sum.l0] at H
    by_cases c2 : x4_1 < (l0.length : Int)
    · rw [if_pos c2] at H
      have c2b0 : decide (x4_1 < (l0.length : Int)) = true := decide_eq_true c2
      clear c2
      by_cases c3 : 0 ≤ x4_1
      · rw [if_pos c3] at H
        have c3b0 : decide (0 ≤ x4_1) = true := decide_eq_true c3
        clear c3
        replace H := Option.bind_eq_some_iff.mp H
        obtain ⟨t532, A40, H⟩ := H
        try dsimp only at H
        have A4 := Aside0.mk A40
        clear A40
        have H' := Aside0.mk H
        clear H
        have p531 : 0 ≤ (x4_1 : Int) := of_decide_eq_true zas15
        have q531 : x4_1 < (l0.length : Int) := of_decide_eq_true zas15
        obtain ⟨ad531, A531_10, c531_10, e531, hx531_0, hx531_1, hx531_2, hx531_3, hx531_4, hx531_5, hx531_6, hx531_7, hx531_8, hx531_9, hx531_10, hl531_10, hi531_10⟩ := at_T55 HR0.out x4_1 p531 q531
        cases e531
        replace hx531_0 := (HB.out.cell (World.block_lt_of_cell? w _ hx531_0)).trans hx531_0
        replace hx531_1 := (HB.out.cell (World.block_lt_of_cell? w _ hx531_1)).trans hx531_1
        replace hx531_2 := (HB.out.cell (World.block_lt_of_cell? w _ hx531_2)).trans hx531_2
        replace hx531_3 := (HB.out.cell (World.block_lt_of_cell? w _ hx531_3)).trans hx531_3
        replace hx531_4 := (HB.out.cell (World.block_lt_of_cell? w _ hx531_4)).trans hx531_4
        replace hx531_5 := (HB.out.cell (World.block_lt_of_cell? w _ hx531_5)).trans hx531_5
        replace hx531_6 := (HB.out.cell (World.block_lt_of_cell? w _ hx531_6)).trans hx531_6
        replace hx531_7 := (HB.out.cell (World.block_lt_of_cell? w _ hx531_7)).trans hx531_7
        replace hx531_8 := (HB.out.cell (World.block_lt_of_cell? w _ hx531_8)).trans hx531_8
        replace hx531_9 := (HB.out.cell (World.block_lt_of_cell? w _ hx531_9)).trans hx531_9
        replace hx531_10 := (HB.out.cell (World.block_lt_of_cell? w _ hx531_10)).trans hx531_10
        have HR531_10 := Aside0.mk hi531_10
        have HC531_10 := Aside0.mk hl531_10
        clear hi531_10 hl531_10
        replace p531 := eq_true p531
        replace q531 := eq_true q531
        go_wp2_with (first | ((with_reducible refine gate_callee (f := 75) rfl ?_); refine goesL_ (some 16) rfl rfl Try.func75 (by kernel_rfl) rfl #[.agg #[.string ((rd_T55 l0 x4_1).f0), .int .i64 ((rd_T55 l0 x4_1).f1), .int .i64 ((rd_T55 l0 x4_1).f2.f0), .int .i64 ((rd_T55 l0 x4_1).f2.f1), .int .i64 ((rd_T55 l0 x4_1).f2.f2), .int .i64 ((rd_T55 l0 x4_1).f3.f0), .int .i64 ((rd_T55 l0 x4_1).f3.f1), .int .i64 ((rd_T55 l0 x4_1).f3.f2), .string ((rd_T55 l0 x4_1).f4), .int .i64 ((rd_T55 l0 x4_1).f5), .slice A531_10 ((rd_T55 l0 x4_1).f6).length c531_10]] rfl zas1 ?_; (with_reducible refine (abugidaref35_size.calls k1 ((rd_T55 l0 x4_1).f0) ((rd_T55 l0 x4_1).f1) ((rd_T55 l0 x4_1).f2.f0) ((rd_T55 l0 x4_1).f2.f1) ((rd_T55 l0 x4_1).f2.f2) ((rd_T55 l0 x4_1).f3.f0) ((rd_T55 l0 x4_1).f3.f1) ((rd_T55 l0 x4_1).f3.f2) ((rd_T55 l0 x4_1).f4) ((rd_T55 l0 x4_1).f5) _ _ ((rd_T55 l0 x4_1).f6) t532 _ ?side1 ?side2 A4.out).mono ?_); (case side1 => repeat (first | exact (Kd.C_below HR531_10.out HB.out) | (with_reducible refine Kd.C_alloc ?_ _) | (with_reducible refine Kd.C_drewN ?_ _) | (with_reducible refine Kd.C_drew ?_))); (case side2 => exact HC531_10.out); rintro e w5 ⟨rfl, hb⟩; refine ⟨_, rfl, ?_⟩; have n0_ := Aside0.mk (below_step zas0 hb); clear HB; have HB := n0_; clear n0_; (try clear hb); (try clear hb2); (try clear hk); (try clear hi)))
        go_roundg k1
        case measure => have := HK1.out; omega
        case rel => exact ⟨(wrap64 (x3_1 + t532)), (wrap64 (x4_1 + 1)), zas14, zas14, H', ⟨by have := HK1.out; omega⟩, ⟨zas0⟩⟩
      · rw [if_neg c3] at H
        exact absurd H (by simp)
    · rw [if_neg c2] at H
      have c2b0 : decide (x4_1 < (l0.length : Int)) = false := decide_eq_false c2
      clear c2
      obtain rfl := Option.some.inj H
      go_wp2
      go_ret
      exact ⟨zas11, zas0⟩

end Go.Proofs.Ythokkeljfdfppaa.Pb
