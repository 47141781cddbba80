import Derived.Test.YthokkeljfdfppaaMgY
namespace Go.Proofs.Ythokkeljfdfppaa.Pb
open Go.RowKit Go.Proofs.Ythokkeljfdfppaa.Gw Go.Proofs.YthokkeljfdfppaaW.PrintWords Go.Proofs.YthokkeljfdfppaaW.PrintLast Go.Proofs.YthokkeljfdfppaaW.PrintMore
open Go.Proofs.Ythokkeljfdfppaa.Gw
attribute [local go_sem] max2_int min2_int max_two min_two max_three min_three max_four min_four   -- for this text's walks alone
set_option linter.unusedVariables false
set_option linter.unusedSimpArgs false

theorem zar11 {p : Prop} (h : p := by (with_reducible repeat (first | refine blk_drewN ?_ _ | refine blk_drew ?_ | refine blk_alloc ?_ _)); exact BK113.out) : p := h
theorem zar10 {p : Prop} (h : p := by show Act.put _ (some _) _ = _; simp only [Act.put, nS]; rfl) : p := h
theorem zar9 {p : Prop} (h : p := by first | (with_reducible assumption) | assumption) : p := h
theorem zar8 {p : Prop} (h : p := by first | rfl | (simp; done) | (simp [*]; done)) : p := h
theorem zar7 {p : Prop} (h : p := by first | exact Kd.R_nil _ _ _ _ _ | exact Kd.N_nil _ _ _ _ _ | exact Kd.V_nil _ _ _ _ _ | exact Kd.Q_nil _ _ _ _ _ | exact Kd.S_nil _ _ _ _ _) : p := h
theorem zar6 {p : Prop} (h : p := by first | rfl | (simp [errW_none, errW_some] <;> rfl) | (simp [*, errW_none, errW_some] <;> rfl)) : p := h
theorem zar5 {p : Prop} (h : p := by repeat (first | (with_reducible first | exact HB.out | apply below_alloc | apply pw_below_drewN | apply below_drew1 | refine below_set ?_ GE113.out) | exact HB.out)) : p := h
theorem zar4 {p : Prop} (h : p := by (with_reducible repeat (first | apply Kd.R_alloc | apply Kd.R_drewN | apply Kd.R_drew)); exact HO_4.out) : p := h
theorem zar3 {p : Prop} (h : p := by repeat (with_reducible first | exact HB.out | apply below_alloc | apply pw_below_drewN | apply below_drew1)) : p := h
theorem zar2 {p : Prop} (h : p := by repeat (first | (with_reducible first | exact HI146.out | apply IsS161.alloc | apply IsS161.drewN | apply IsS161.drew | apply IsS161.set_0 | apply IsS161.set_1) | exact HI146.out)) : p := h
theorem zar1 {p : Prop} (h : p := by (try simp only [List.map_toArray, List.map_cons, List.map_nil]); first | done | rfl | (simp only [List.length_drop, List.length_take]; rfl)) : p := h
theorem zar0 {p : Prop} (h : p := by repeat (first | (with_reducible first | exact HB.out | apply below_alloc | apply pw_below_drewN | apply below_drew1 | refine below_set ?_ (IsS161.ge HI146.out)) | exact HB.out)) : p := h
def abugidaref01_Mod.f (a0 : Int) (a1 : Int) : Option (Int) := if a1 = 0 then (none) else (some (Int.tmod (wrap64 ((Int.tmod a0 a1) + a1)) a1))
set_option maxHeartbeats 8000000 in
set_option maxRecDepth 100000 in
theorem abugidaref01_Mod.calls (a0 : Int) (a1 : Int) (r : Int) (w : World) (h : abugidaref01_Mod.f a0 a1 = some r) :
 Calls Try.prog 30 #[.int .i64 a0, .int .i64 a1] w fun e w' => e = .returned (.int .i64 r) ∧ Drawn0 w w' := by
 have H : (if a1 = 0 then (none) else (some (Int.tmod (wrap64 ((Int.tmod a0 a1) + a1)) a1))) = some r := h
 clear h
 by_cases c3 : a1 = 0
 · rw [if_pos c3] at H
   exact absurd H (by simp)
 · rw [if_neg c3] at H
   have c3b0 : (a1 == 0) = false := beq_eq_false_iff_ne.mpr c3
   have c3b1 : (a1 != 0) = true := bne_iff_ne.mpr c3
   obtain rfl := Option.some.inj H
   go_enter Try.func30, Try.ntmps30
   go_wp2
   go_ret
   exact ⟨zar8, by repeat (first | exact Drawn0.refl _ | apply Drawn0.step)⟩

def relay_Ask.l0 : Nat → ByteArray → List (S52) → Int → Int → Option (ByteArray)
 | 0, _, _, _, _ => none
 | k + 1, x7, x21, x22, x23 => if x23 < x22 then (if 0 ≤ x23 then (if x23 < (x21.length : Int) then ((wire_Int.f k ((rd_T52 x21 x23).f0)).bind fun t114 => ((wire_Int.f k ((rd_T52 x21 x23).f1)).bind fun t115 => (if t114.size + t115.size ≤ 9223372036854775807 then ((wire_Int.f k ((rd_T52 x21 x23).f2)).bind fun t116 => (if (t114 ++ t115).size + t116.size ≤ 9223372036854775807 then (if x7.size + ((t114 ++ t115) ++ t116).size ≤ 9223372036854775807 then (relay_Ask.l0 k (x7 ++ ((t114 ++ t115) ++ t116)) x21 x22 (wrap64 (x23 + 1))) else (none)) else (none))) else (none)))) else (none)) else (none)) else (some x7)
def relay_Ask.f (k : Nat) (a0 : ByteArray) (a1 : Int) (l2 : List (S52)) : Option (ByteArray) := (wire_Text.f k (⟨#[97, 115, 107]⟩ : ByteArray)).bind fun t108 => ((wire_Text.f k a0).bind fun t109 => (if t108.size + t109.size ≤ 9223372036854775807 then ((wire_Int.f k a1).bind fun t110 => (if (t108 ++ t109).size + t110.size ≤ 9223372036854775807 then ((wire_Int.f k (l2.length : Int)).bind fun t111 => (if ((t108 ++ t109) ++ t110).size + t111.size ≤ 9223372036854775807 then (relay_Ask.l0 k (((t108 ++ t109) ++ t110) ++ t111) l2 (l2.length : Int) 0) else (none))) else (none))) else (none)))
def relay_Ask.T5 : Bool × List (List Nat × List Nat) := (true, [([], []), ([], []), ([1], [1]), ([2], [2]), ([], []), ([4], [4]), ([5, 3], [5]), ([3, 6], [3, 6]), ([], []), ([8], [8]), ([9, 6], [9]), ([7, 10], [7, 10]), ([0, 11], [0, 11]), ([12, 10, 0, 1, 2, 3, 4, 5, 6, 7, 8, 9, 10, 11, 12], [0, 12])])
def relay_Ask.B5 : List Nat := [0, 0, 2, 6, 0, 16, 62, 126, 0, 256, 894, 2046, 4095, 8191]
theorem relay_Ask.tab5 : rtab .any (opsOf Try.f16 5) = relay_Ask.T5 := by kernel_rfl
theorem relay_Ask.bits5 : waitsOk relay_Ask.T5.2 relay_Ask.B5 = true := by kernel_rfl
set_option maxHeartbeats 8000000 in
set_option maxRecDepth 100000 in
theorem relay_Ask.calls (k : Nat) (a0 : ByteArray) (a1 : Int) (A2 : Option Addr) (c2 : Nat) (l2 : List (S52)) (r : ByteArray) (w : World) (hr2 : Kd.C k52 w A2 l2.length l2) (hc2 : l2.length ≤ c2) (h : relay_Ask.f k a0 a1 l2 = some r) :
 Calls Try.prog 16 #[.string a0, .int .i64 a1, .slice A2 l2.length c2] w fun e w' => e = .returned (.string r) ∧ Below w.heap.size w w' := by
 have hu52 := Try.underlying52
 have HR2 := Aside0.mk hr2
 have HC2 := Aside0.mk hc2
 clear hr2 hc2
 have HB := Aside0.mk (Below.refl w.heap.size w)
 have H : ((wire_Text.f k (⟨#[97, 115, 107]⟩ : ByteArray)).bind fun t108 => ((wire_Text.f k a0).bind fun t109 => (if t108.size + t109.size ≤ 9223372036854775807 then ((wire_Int.f k a1).bind fun t110 => (if (t108 ++ t109).size + t110.size ≤ 9223372036854775807 then ((wire_Int.f k (l2.length : Int)).bind fun t111 => (if ((t108 ++ t109) ++ t110).size + t111.size ≤ 9223372036854775807 then (relay_Ask.l0 k (((t108 ++ t109) ++ t110) ++ t111) l2 (l2.length : Int) 0) else (none))) else (none))) else (none)))) = some r := h
 clear h
 replace H := Option.bind_eq_some_iff.mp H
 obtain ⟨t108, A40, H⟩ := H
 try dsimp only at H
 have A4 := Aside0.mk A40
 clear A40
 replace H := Option.bind_eq_some_iff.mp H
 obtain ⟨t109, A50, H⟩ := H
 try dsimp only at H
 have A5 := Aside0.mk A50
 clear A50
 by_cases c6 : t108.size + t109.size ≤ 9223372036854775807
 · rw [if_pos c6] at H
   have c6b0 := eq_true c6
   have c6b1 : decide (t108.size + t109.size ≤ 9223372036854775807) = true := decide_eq_true c6
   try have c6b2 : (9223372036854775807 < t108.size + t109.size) = False := eq_false (Nat.not_lt.2 c6)
   replace H := Option.bind_eq_some_iff.mp H
   obtain ⟨t110, A70, H⟩ := H
   try dsimp only at H
   have A7 := Aside0.mk A70
   clear A70
   by_cases c8 : (t108 ++ t109).size + t110.size ≤ 9223372036854775807
   · rw [if_pos c8] at H
     have c8b0 := eq_true c8
     have c8b1 : decide ((t108 ++ t109).size + t110.size ≤ 9223372036854775807) = true := decide_eq_true c8
     try have c8b2 : (9223372036854775807 < (t108 ++ t109).size + t110.size) = False := eq_false (Nat.not_lt.2 c8)
     try (have c8e := c8; simp only [ByteArray.size_append] at c8e; have c8e1 := eq_true c8e; have c8e2 := eq_false (Nat.not_lt.2 c8e); clear c8e)
     replace H := Option.bind_eq_some_iff.mp H
     obtain ⟨t111, A90, H⟩ := H
     try dsimp only at H
     have A9 := Aside0.mk A90
     clear A90
     by_cases c10 : ((t108 ++ t109) ++ t110).size + t111.size ≤ 9223372036854775807
     · rw [if_pos c10] at H
       have c10b0 := eq_true c10
       have c10b1 : decide (((t108 ++ t109) ++ t110).size + t111.size ≤ 9223372036854775807) = true := decide_eq_true c10
       try have c10b2 : (9223372036854775807 < ((t108 ++ t109) ++ t110).size + t111.size) = False := eq_false (Nat.not_lt.2 c10)
       try (have c10e := c10; simp only [ByteArray.size_append] at c10e; have c10e1 := eq_true c10e; have c10e2 := eq_false (Nat.not_lt.2 c10e); clear c10e)
       have H' := Aside0.mk H
       clear H
       go_enter Try.func16, Try.ntmps16
       go_wp2_with (first | ((with_reducible refine gate_callee (f := 49) rfl ?_); refine goesL_ (some 10) rfl rfl Try.func49 (by kernel_rfl) rfl #[.string (⟨#[97, 115, 107]⟩ : ByteArray)] rfl zar1 ?_; (with_reducible refine (wire_Text.calls k (⟨#[97, 115, 107]⟩ : ByteArray) t108 _ A4.out).mono ?_); rintro e w11 ⟨rfl, hb⟩; refine ⟨_, rfl, ?_⟩; have n0_ := Aside0.mk (below_step zar3 hb); clear HB; have HB := n0_; clear n0_; (try clear hb); (try clear hb2); (try clear hk); (try clear hi)) | ((with_reducible refine gate_callee (f := 49) rfl ?_); refine goesL_ (some 12) rfl rfl Try.func49 (by kernel_rfl) rfl #[.string a0] rfl zar1 ?_; (with_reducible refine (wire_Text.calls k a0 t109 _ A5.out).mono ?_); rintro e w12 ⟨rfl, hb⟩; refine ⟨_, rfl, ?_⟩; have n0_ := Aside0.mk (below_step zar3 hb); clear HB; have HB := n0_; clear n0_; (try clear hb); (try clear hb2); (try clear hk); (try clear hi)) | ((with_reducible refine gate_callee (f := 50) rfl ?_); refine goesL_ (some 15) rfl rfl Try.func50 (by kernel_rfl) rfl #[.int .i64 a1] rfl zar1 ?_; (with_reducible refine (wire_Int.calls k a1 t110 _ A7.out).mono ?_); rintro e w13 ⟨rfl, hb⟩; refine ⟨_, rfl, ?_⟩; have n0_ := Aside0.mk (below_step zar3 hb); clear HB; have HB := n0_; clear n0_; (try clear hb); (try clear hb2); (try clear hk); (try clear hi)) | ((with_reducible refine gate_callee (f := 50) rfl ?_); refine goesL_ (some 19) rfl rfl Try.func50 (by kernel_rfl) rfl #[.int .i64 (l2.length : Int)] rfl zar1 ?_; (with_reducible refine (wire_Int.calls k (l2.length : Int) t111 _ A9.out).mono ?_); rintro e w14 ⟨rfl, hb⟩; refine ⟨_, rfl, ?_⟩; have n0_ := Aside0.mk (below_step zar3 hb); clear HB; have HB := n0_; clear n0_; (try clear hb); (try clear hb2); (try clear hk); (try clear hi)))
       go_loopg [7, 23] k (fun kq v7 v23 w' => ∃ (x7_1 : ByteArray) (x23_1 : Int), v7 = .string x7_1 ∧ v23 = .int .i64 x23_1 ∧ Aside0 (relay_Ask.l0 kq x7_1 l2 (l2.length : Int) x23_1 = some r) ∧ Aside0 (kq ≤ k) ∧ Aside0 (Below w.heap.size w w'))
       case atStart => exact ⟨(((t108 ++ t109) ++ t110) ++ t111), (0), zar8, zar8, H', ⟨Nat.le_refl _⟩, ⟨zar3⟩⟩
       case round =>
        clear H'
        try clear c1
        try clear c2
        try clear p2
        try clear c4
        try clear c5
        try clear c6
        try clear c6b0
        try clear c6b1
        try clear c6b2
        try clear c8
        try clear c8b0
        try clear c8b1
        try clear c8b2
        try clear c10
        try clear c10b0
        try clear c10b1
        try clear c10b2
        obtain ⟨x7_1, x23_1, rfl, rfl, HA, HK1, HB⟩ := hrel
        cases gk with
        | zero => exact absurd HA.out (by simp [relay_Ask.l0])
        | succ k1 =>
          have H := HA.out
          clear HA
          simp only [relay_Ask.l0] at H
          by_cases c15 : x23_1 < (l2.length : Int)
          · rw [if_pos c15] at H
            have c15b0 : decide (x23_1 < (l2.length : Int)) = true := decide_eq_true c15
            clear c15
            by_cases c16 : 0 ≤ x23_1
            · rw [if_pos c16] at H
              have c16b0 : decide (0 ≤ x23_1) = true := decide_eq_true c16
              clear c16
              by_cases c17 : x23_1 < (l2.length : Int)
              · rw [if_pos c17] at H
                have c17b0 : decide (x23_1 < (l2.length : Int)) = true := decide_eq_true c17
                clear c17
                replace H := Option.bind_eq_some_iff.mp H
                obtain ⟨t114, A180, H⟩ := H
                try dsimp only at H
                have A18 := Aside0.mk A180
                clear A180
                replace H := Option.bind_eq_some_iff.mp H
                obtain ⟨t115, A190, H⟩ := H
                try dsimp only at H
                have A19 := Aside0.mk A190
                clear A190
                by_cases c20 : t114.size + t115.size ≤ 9223372036854775807
                · rw [if_pos c20] at H
                  have c20b0 := eq_true c20
                  have c20b1 : decide (t114.size + t115.size ≤ 9223372036854775807) = true := decide_eq_true c20
                  try have c20b2 : (9223372036854775807 < t114.size + t115.size) = False := eq_false (Nat.not_lt.2 c20)
                  replace H := Option.bind_eq_some_iff.mp H
                  obtain ⟨t116, A210, H⟩ := H
                  try dsimp only at H
                  have A21 := Aside0.mk A210
                  clear A210
                  by_cases c22 : (t114 ++ t115).size + t116.size ≤ 9223372036854775807
                  · rw [if_pos c22] at H
                    have c22b0 := eq_true c22
                    have c22b1 : decide ((t114 ++ t115).size + t116.size ≤ 9223372036854775807) = true := decide_eq_true c22
                    try have c22b2 : (9223372036854775807 < (t114 ++ t115).size + t116.size) = False := eq_false (Nat.not_lt.2 c22)
                    try (have c22e := c22; simp only [ByteArray.size_append] at c22e; have c22e1 := eq_true c22e; have c22e2 := eq_false (Nat.not_lt.2 c22e); clear c22e)
                    by_cases c23 : x7_1.size + ((t114 ++ t115) ++ t116).size ≤ 9223372036854775807
                    · rw [if_pos c23] at H
                      have c23b0 := eq_true c23
                      have c23b1 : decide (x7_1.size + ((t114 ++ t115) ++ t116).size ≤ 9223372036854775807) = true := decide_eq_true c23
                      try have c23b2 : (9223372036854775807 < x7_1.size + ((t114 ++ t115) ++ t116).size) = False := eq_false (Nat.not_lt.2 c23)
                      try (have c23e := c23; simp only [ByteArray.size_append] at c23e; have c23e1 := eq_true c23e; have c23e2 := eq_false (Nat.not_lt.2 c23e); clear c23e)
                      have H' := Aside0.mk H
                      clear H
                      have p112 : 0 ≤ (x23_1 : Int) := of_decide_eq_true zar9
                      have q112 : x23_1 < (l2.length : Int) := of_decide_eq_true zar9
                      obtain ⟨ad112, e112, hx112_0, hx112_1, hx112_2⟩ := at_T52 HR2.out x23_1 p112 q112
                      cases e112
                      replace hx112_0 := (HB.out.cell (World.block_lt_of_cell? w _ hx112_0)).trans hx112_0
                      replace hx112_1 := (HB.out.cell (World.block_lt_of_cell? w _ hx112_1)).trans hx112_1
                      replace hx112_2 := (HB.out.cell (World.block_lt_of_cell? w _ hx112_2)).trans hx112_2
                      replace p112 := eq_true p112
                      replace q112 := eq_true q112
                      try go_wp2_with (first | ((with_reducible refine gate_dst (N := 9) rfl ?_); refine box_event ?hg (N := 9) ?hd (cs := #[.int .i64 0, .int .i64 0, .int .i64 0]) (t := 52) ?hr ?_; (case hd => rfl); (case hg => rfl); (case hr => first | (go_simp; done) | (go_simp; rfl)); intro gb113 hg w24 hbox hb; have n0_ := Aside0.mk (below_step zar3 hb); have n1_ := Aside0.mk (hbox); have n2_ := Aside0.mk ((by rw [hg]; exact (below_size zar3) : w.heap.size ≤ gb113)); have n3_ := Aside0.mk ((by rw [hg]; exact (below_size zar3) : w.heap.size ≤ gb113)); clear HB; have HB := n0_; have BK113 := n1_; have GW113 := n2_; have GE113 := n3_; clear n0_ n1_ n2_ n3_; clear hb hbox hg; have hcz25_0 : w24.cell? ⟨gb113, 0, none⟩ = some (.int .i64 0) := (blk_cell BK113.out 0).trans rfl; have hcz25_1 : w24.cell? ⟨gb113, 1, none⟩ = some (.int .i64 0) := (blk_cell BK113.out 1).trans rfl; have hcz25_2 : w24.cell? ⟨gb113, 2, none⟩ = some (.int .i64 0) := (blk_cell BK113.out 2).trans rfl; have hfz25_0 := blk_frozen BK113.out 0; have hfz25_1 := blk_frozen BK113.out 1; have hfz25_2 := blk_frozen BK113.out 2))
                      have n0_ : Aside0 ((((w24.setCell ⟨gb113, 0, none⟩ (.int .i64 ((rd_T52 l2 x23_1).f0))).setCell ⟨gb113, 1, none⟩ (.int .i64 ((rd_T52 l2 x23_1).f1))).setCell ⟨gb113, 2, none⟩ (.int .i64 ((rd_T52 l2 x23_1).f2))).heap[gb113]? = some (.cells #[.int .i64 ((rd_T52 l2 x23_1).f0), .int .i64 ((rd_T52 l2 x23_1).f1), .int .i64 ((rd_T52 l2 x23_1).f2)] 52 (0, 0))) := ⟨by (with_reducible repeat (first | refine blk_drewN ?_ _ | refine blk_drew ?_ | refine blk_alloc ?_ _)); refine blk_put (cs := #[.int .i64 ((rd_T52 l2 x23_1).f0), .int .i64 ((rd_T52 l2 x23_1).f1), .int .i64 0]) ?_ 2 _ rfl; (with_reducible repeat (first | refine blk_drewN ?_ _ | refine blk_drew ?_ | refine blk_alloc ?_ _)); refine blk_put (cs := #[.int .i64 ((rd_T52 l2 x23_1).f0), .int .i64 0, .int .i64 0]) ?_ 1 _ rfl; (with_reducible repeat (first | refine blk_drewN ?_ _ | refine blk_drew ?_ | refine blk_alloc ?_ _)); refine blk_put (cs := #[.int .i64 0, .int .i64 0, .int .i64 0]) ?_ 0 _ rfl; (with_reducible repeat (first | refine blk_drewN ?_ _ | refine blk_drew ?_ | refine blk_alloc ?_ _)); exact BK113.out⟩
                      have n1_ : Aside0 (Below w.heap.size w (((w24.setCell ⟨gb113, 0, none⟩ (.int .i64 ((rd_T52 l2 x23_1).f0))).setCell ⟨gb113, 1, none⟩ (.int .i64 ((rd_T52 l2 x23_1).f1))).setCell ⟨gb113, 2, none⟩ (.int .i64 ((rd_T52 l2 x23_1).f2)))) := ⟨zar5⟩
                      (try clear BK113)
                      (try clear HB)
                      generalize (((w24.setCell ⟨gb113, 0, none⟩ (.int .i64 ((rd_T52 l2 x23_1).f0))).setCell ⟨gb113, 1, none⟩ (.int .i64 ((rd_T52 l2 x23_1).f1))).setCell ⟨gb113, 2, none⟩ (.int .i64 ((rd_T52 l2 x23_1).f2))) = w26 at n0_ n1_ ⊢
                      have BK113 := n0_
                      have HB := n1_
                      clear n0_ n1_
                      have n0_ := Aside0.mk (blk_drew BK113.out)
                      have n1_ := Aside0.mk (below_drew1 HB.out)
                      clear BK113
                      clear HB
                      have BK113 := n0_
                      have HB := n1_
                      clear n0_ n1_
                      refine start_ (n := 14) (S := fun w' => w'.cell? ⟨gb113, 0, none⟩ = some (.int .i64 ((rd_T52 l2 x23_1).f0)) ∧ w'.cell? ⟨gb113, 1, none⟩ = some (.int .i64 ((rd_T52 l2 x23_1).f1)) ∧ w'.cell? ⟨gb113, 2, none⟩ = some (.int .i64 ((rd_T52 l2 x23_1).f2))) (ds := []) #[false, false, false, false, false, false, false, false, false, false, false, false, false, false] (by kernel_rfl) rfl rfl ⟨(blk_cell BK113.out 0).trans rfl, (blk_cell BK113.out 1).trans rfl, (blk_cell BK113.out 2).trans rfl⟩ (fun hHeld => ?_); refine with_tabW relay_Ask.tab5 relay_Ask.bits5 (fun HT_ HW_ => ?_)
                      generalize w26.drew = w27 at BK113 HB hHeld ⊢
                      refine pure_ (i := 0) (N := some 27) (v := ?_) (a' := ?_) #[true, false, false, false, false, false, false, false, false, false, false, false, false, false] rfl rfl (any_of HT_.out (by kernel_rfl)) (fun _ _ _ h => h) (Or.inl ⟨by rfl, ?_⟩) ?_ ?_
                      rotate_left
                      · intro w'
                        go_simp
                        with_reducible rfl
                      rotate_left
                      · simp only [Act.put, nS]
                        rfl
                      refine pure_ (i := 1) (N := some 28) (v := ?_) (a' := ?_) #[true, true, false, false, false, false, false, false, false, false, false, false, false, false] rfl rfl (any_of HT_.out (by kernel_rfl)) (fun _ _ _ h => h) (Or.inl ⟨by rfl, ?_⟩) ?_ ?_
                      rotate_left
                      · intro w'
                        go_simp
                        with_reducible rfl
                      rotate_left
                      · simp only [Act.put, nS]
                        rfl
                      refine pure_ (i := 4) (N := some 31) (v := ?_) (a' := ?_) #[true, true, false, false, true, false, false, false, false, false, false, false, false, false] rfl rfl (any_of HT_.out (by kernel_rfl)) (fun _ _ _ h => h) (Or.inl ⟨by rfl, ?_⟩) ?_ ?_
                      rotate_left
                      · intro w'
                        go_simp
                        with_reducible rfl
                      rotate_left
                      · simp only [Act.put, nS]
                        rfl
                      refine pure_ (i := 8) (N := some 35) (v := ?_) (a' := ?_) #[true, true, false, false, true, false, false, false, true, false, false, false, false, false] rfl rfl (any_of HT_.out (by kernel_rfl)) (fun _ _ _ h => h) (Or.inl ⟨by rfl, ?_⟩) ?_ ?_
                      rotate_left
                      · intro w'
                        go_simp
                        with_reducible rfl
                      rotate_left
                      · simp only [Act.put, nS]
                        rfl
                      refine take_ (i := 2) (N := some 29) (v := ?_) (a' := ?_) #[true, true, true, false, true, false, false, false, true, false, false, false, false, false] rfl rfl (take_ofW HT_.out HW_.out (by kernel_rfl)) (fun _ _ _ h => h) (Or.inl ⟨by rfl, ?_⟩) hHeld ?_ ?_
                      rotate_left
                      · rintro w' ⟨s0, s1, s2⟩
                        go_simp
                        with_reducible rfl
                      rotate_left
                      · simp only [Act.put, nS]
                        rfl
                      refine take_ (i := 5) (N := some 32) (v := ?_) (a' := ?_) #[true, true, true, false, true, true, false, false, true, false, false, false, false, false] rfl rfl (take_ofW HT_.out HW_.out (by kernel_rfl)) (fun _ _ _ h => h) (Or.inl ⟨by rfl, ?_⟩) hHeld ?_ ?_
                      rotate_left
                      · rintro w' ⟨s0, s1, s2⟩
                        go_simp
                        with_reducible rfl
                      rotate_left
                      · simp only [Act.put, nS]
                        rfl
                      refine take_ (i := 9) (N := some 36) (v := ?_) (a' := ?_) #[true, true, true, false, true, true, false, false, true, true, false, false, false, false] rfl rfl (take_ofW HT_.out HW_.out (by kernel_rfl)) (fun _ _ _ h => h) (Or.inl ⟨by rfl, ?_⟩) hHeld ?_ ?_
                      rotate_left
                      · rintro w' ⟨s0, s1, s2⟩
                        go_simp
                        with_reducible rfl
                      rotate_left
                      · simp only [Act.put, nS]
                        rfl
                      refine one_ (i := 3) (N := some 30) #[true, true, true, true, true, true, false, false, true, true, false, false, false, false] rfl rfl (one_of HT_.out (by kernel_rfl)) (by decide) (fun K hK => ?_)
                      refine goes_ Try.func50 (by kernel_rfl) rfl #[.int .i64 ((rd_T52 l2 x23_1).f0)] (by rfl) rfl rfl zar1 ?_
                      with_reducible refine (wire_Int.calls k1 ((rd_T52 l2 x23_1).f0) t114 _ A18.out).mono ?_
                      rintro e w28 ⟨rfl, hb⟩
                      refine ⟨_, rfl, ?_⟩
                      have n0_ := Aside0.mk (blk_below (g := gb113) (o := .cells #[.int .i64 ((rd_T52 l2 x23_1).f0), .int .i64 ((rd_T52 l2 x23_1).f1), .int .i64 ((rd_T52 l2 x23_1).f2)] 52 (0, 0)) zar11 hb)
                      have n1_ := Aside0.mk (below_step zar5 hb)
                      clear BK113
                      clear HB
                      have BK113 := n0_
                      have HB := n1_
                      clear n0_ n1_
                      (try clear hb)
                      (try clear hb2)
                      (try clear hk)
                      (try clear hi)
                      refine hK.out _ _ ⟨(blk_cell BK113.out 0).trans rfl, (blk_cell BK113.out 1).trans rfl, (blk_cell BK113.out 2).trans rfl⟩ (fun hHeld => norm_ zar10 ?_)
                      clear hK K
                      refine one_ (i := 6) (N := some 33) #[true, true, true, true, true, true, true, false, true, true, false, false, false, false] rfl rfl (one_of HT_.out (by kernel_rfl)) (by decide) (fun K hK => ?_)
                      refine goes_ Try.func50 (by kernel_rfl) rfl #[.int .i64 ((rd_T52 l2 x23_1).f1)] (by rfl) rfl rfl zar1 ?_
                      with_reducible refine (wire_Int.calls k1 ((rd_T52 l2 x23_1).f1) t115 _ A19.out).mono ?_
                      rintro e w29 ⟨rfl, hb⟩
                      refine ⟨_, rfl, ?_⟩
                      have n0_ := Aside0.mk (blk_below (g := gb113) (o := .cells #[.int .i64 ((rd_T52 l2 x23_1).f0), .int .i64 ((rd_T52 l2 x23_1).f1), .int .i64 ((rd_T52 l2 x23_1).f2)] 52 (0, 0)) zar11 hb)
                      have n1_ := Aside0.mk (below_step zar5 hb)
                      clear BK113
                      clear HB
                      have BK113 := n0_
                      have HB := n1_
                      clear n0_ n1_
                      (try clear hb)
                      (try clear hb2)
                      (try clear hk)
                      (try clear hi)
                      refine hK.out _ _ ⟨(blk_cell BK113.out 0).trans rfl, (blk_cell BK113.out 1).trans rfl, (blk_cell BK113.out 2).trans rfl⟩ (fun hHeld => norm_ zar10 ?_)
                      clear hK K
                      refine pure_ (i := 7) (N := some 34) (v := ?_) (a' := ?_) #[true, true, true, true, true, true, true, true, true, true, false, false, false, false] rfl rfl (any_of HT_.out (by kernel_rfl)) (fun _ _ _ h => h) (Or.inl ⟨by rfl, ?_⟩) ?_ ?_
                      rotate_left
                      · intro w'
                        go_simp
                        with_reducible rfl
                      rotate_left
                      · simp only [Act.put, nS]
                        rfl
                      refine one_ (i := 10) (N := some 37) #[true, true, true, true, true, true, true, true, true, true, true, false, false, false] rfl rfl (one_of HT_.out (by kernel_rfl)) (by decide) (fun K hK => ?_)
                      refine goes_ Try.func50 (by kernel_rfl) rfl #[.int .i64 ((rd_T52 l2 x23_1).f2)] (by rfl) rfl rfl zar1 ?_
                      with_reducible refine (wire_Int.calls k1 ((rd_T52 l2 x23_1).f2) t116 _ A21.out).mono ?_
                      rintro e w30 ⟨rfl, hb⟩
                      refine ⟨_, rfl, ?_⟩
                      have n0_ := Aside0.mk (blk_below (g := gb113) (o := .cells #[.int .i64 ((rd_T52 l2 x23_1).f0), .int .i64 ((rd_T52 l2 x23_1).f1), .int .i64 ((rd_T52 l2 x23_1).f2)] 52 (0, 0)) zar11 hb)
                      have n1_ := Aside0.mk (below_step zar5 hb)
                      clear BK113
                      clear HB
                      have BK113 := n0_
                      have HB := n1_
                      clear n0_ n1_
                      (try clear hb)
                      (try clear hb2)
                      (try clear hk)
                      (try clear hi)
                      refine hK.out _ _ ⟨(blk_cell BK113.out 0).trans rfl, (blk_cell BK113.out 1).trans rfl, (blk_cell BK113.out 2).trans rfl⟩ (fun hHeld => norm_ zar10 ?_)
                      clear hK K
                      refine pure_ (i := 11) (N := some 38) (v := ?_) (a' := ?_) #[true, true, true, true, true, true, true, true, true, true, true, true, false, false] rfl rfl (any_of HT_.out (by kernel_rfl)) (fun _ _ _ h => h) (Or.inl ⟨by rfl, ?_⟩) ?_ ?_
                      rotate_left
                      · intro w'
                        go_simp
                        with_reducible rfl
                      rotate_left
                      · simp only [Act.put, nS]
                        rfl
                      refine pure_ (i := 12) (N := some 39) (v := ?_) (a' := ?_) #[true, true, true, true, true, true, true, true, true, true, true, true, true, false] rfl rfl (any_of HT_.out (by kernel_rfl)) (fun _ _ _ h => h) (Or.inl ⟨by rfl, ?_⟩) ?_ ?_
                      rotate_left
                      · intro w'
                        go_simp
                        with_reducible rfl
                      rotate_left
                      · simp only [Act.put, nS]
                        rfl
                      refine pure_ (i := 13) (N := some 7) (v := ?_) (a' := ?_) #[true, true, true, true, true, true, true, true, true, true, true, true, true, true] rfl rfl (any_of HT_.out (by kernel_rfl)) (fun _ _ _ h => h) (Or.inl ⟨by rfl, ?_⟩) ?_ ?_
                      rotate_left
                      · intro w'
                        go_simp
                        with_reducible rfl
                      rotate_left
                      · simp only [Act.put, nS]
                        rfl
                      refine done_ (done_of HT_.out (by kernel_rfl)) ?_
                      try go_wp2
                      go_roundg k1
                      case measure => have := HK1.out; omega
                      case rel => exact ⟨(x7_1 ++ ((t114 ++ t115) ++ t116)), (wrap64 (x23_1 + 1)), zar8, zar8, H', ⟨by have := HK1.out; omega⟩, ⟨zar5⟩⟩
                    · rw [if_neg c23] at H
                      exact absurd H (by simp)
                  · rw [if_neg c22] at H
                    exact absurd H (by simp)
                · rw [if_neg c20] at H
                  exact absurd H (by simp)
              · rw [if_neg c17] at H
                exact absurd H (by simp)
            · rw [if_neg c16] at H
              exact absurd H (by simp)
          · rw [if_neg c15] at H
            have c15b0 : decide (x23_1 < (l2.length : Int)) = false := decide_eq_false c15
            clear c15
            obtain rfl := Option.some.inj H
            go_wp2
            go_ret
            exact ⟨zar6, zar3⟩
     · rw [if_neg c10] at H
       exact absurd H (by simp)
   · rw [if_neg c8] at H
     exact absurd H (by simp)
 · rw [if_neg c6] at H
   exact absurd H (by simp)

mutual
def relay_Asked.l0 : Nat → ByteArray → Int → List (S52) → Int → ByteArray → Bool → Option (ByteArray × Int × (List (S52)) × Bool)
 | 0, _, _, _, _, _, _ => none
 | k + 1, x2, x3, x4, x7, x147000, x147001 => if (x4.length : Int) < x7 then ((wire_Reader_Bad.f x147000 x147001).bind fun bt159 => (relay_Asked.j1 k x2 x3 x4 x7 (!bt159.1) bt159.2.1 bt159.2.2)) else (relay_Asked.j1 k x2 x3 x4 x7 false x147000 x147001)
def relay_Asked.j1 : Nat → ByteArray → Int → List (S52) → Int → Bool → ByteArray → Bool → Option (ByteArray × Int × (List (S52)) × Bool)
 | 0, _, _, _, _, _, _, _ => none
 | k + 1, x2, x3, x4, x7, x30, x147000, x147001 => if x30 = true then ((wire_Reader_Int.f k x147000 x147001).bind fun bt162 => ((wire_Reader_Int.f k bt162.2.1 bt162.2.2).bind fun bt165 => ((wire_Reader_Int.f k bt165.2.1 bt165.2.2).bind fun bt168 => (if x4.length < 5864062014805 then (relay_Asked.l0 k x2 x3 (x4 ++ [(⟨bt162.1, bt165.1, bt168.1⟩ : S52)]) x7 bt168.2.1 bt168.2.2) else (none))))) else ((wire_Reader_Bad.f x147000 x147001).bind fun bt174 => (if bt174.1 = true then (some ((⟨#[]⟩ : ByteArray), 0, ([] : List (S52)), false)) else (if x7 < 0 then (some ((⟨#[]⟩ : ByteArray), 0, ([] : List (S52)), false)) else ((wire_Reader_Left.f bt174.2.1 bt174.2.2).bind fun bt177 => (if bt177.1 > 0 then (some ((⟨#[]⟩ : ByteArray), 0, ([] : List (S52)), false)) else (some (x2, x3, x4, true)))))))
end
def relay_Asked.f (k : Nat) (a0 : ByteArray) : Option (ByteArray × Int × (List (S52)) × Bool) := (wire_New.f a0).bind fun bt144 => ((wire_Reader_Text.f k bt144.1 bt144.2).bind fun bt147 => (if bt147.1.toList = ([97, 115, 107] : List UInt8) then ((wire_Reader_Text.f k bt147.2.1 bt147.2.2).bind fun bt150 => ((wire_Reader_Int.f k bt150.2.1 bt150.2.2).bind fun bt153 => ((wire_Reader_Int.f k bt153.2.1 bt153.2.2).bind fun bt156 => (relay_Asked.l0 k bt150.1 bt153.1 ([] : List (S52)) bt156.1 bt156.2.1 bt156.2.2)))) else (some ((⟨#[]⟩ : ByteArray), 0, ([] : List (S52)), false))))
set_option maxHeartbeats 8000000 in
set_option maxRecDepth 100000 in
theorem relay_Asked.calls (k : Nat) (a0 : ByteArray) (r1 : ByteArray) (r2 : Int) (r3 : List (S52)) (r4 : Bool) (w : World) (h : relay_Asked.f k a0 = some (r1, r2, r3, r4)) :
 Calls Try.prog 17 #[.string a0] w fun e w' => ∃ v2_ : Value, e = .returned (.tuple #[.string r1, .int .i64 r2, v2_, .bool r4]) ∧ Kd.R k52 52 w' w.heap.size (fun _ => True) v2_ r3 ∧ Below w.heap.size w w' := by
 have hu52 := Try.underlying52
 have HB := Aside0.mk (Below.refl w.heap.size w)
 have H : ((wire_New.f a0).bind fun bt144 => ((wire_Reader_Text.f k bt144.1 bt144.2).bind fun bt147 => (if bt147.1.toList = ([97, 115, 107] : List UInt8) then ((wire_Reader_Text.f k bt147.2.1 bt147.2.2).bind fun bt150 => ((wire_Reader_Int.f k bt150.2.1 bt150.2.2).bind fun bt153 => ((wire_Reader_Int.f k bt153.2.1 bt153.2.2).bind fun bt156 => (relay_Asked.l0 k bt150.1 bt153.1 ([] : List (S52)) bt156.1 bt156.2.1 bt156.2.2)))) else (some ((⟨#[]⟩ : ByteArray), 0, ([] : List (S52)), false))))) = some (r1, r2, r3, r4) := h
 clear h
 replace H := Option.bind_eq_some_iff.mp H
 obtain ⟨⟨t144, t145⟩, A20, H⟩ := H
 try dsimp only at H
 have A2 := Aside0.mk A20
 clear A20
 replace H := Option.bind_eq_some_iff.mp H
 obtain ⟨⟨t147, t148, t149⟩, A30, H⟩ := H
 try dsimp only at H
 have A3 := Aside0.mk A30
 clear A30
 by_cases c4 : t147.toList = ([97, 115, 107] : List UInt8)
 · rw [if_pos c4] at H
   have c4b0 : (t147.toList == ([97, 115, 107] : List UInt8)) = true := beq_iff_eq.mpr c4
   have c4b1 : (t147.toList != ([97, 115, 107] : List UInt8)) = false := bne_eq_false_iff_eq.mpr c4
   clear c4
   replace H := Option.bind_eq_some_iff.mp H
   obtain ⟨⟨t150, t151, t152⟩, A50, H⟩ := H
   try dsimp only at H
   have A5 := Aside0.mk A50
   clear A50
   replace H := Option.bind_eq_some_iff.mp H
   obtain ⟨⟨t153, t154, t155⟩, A60, H⟩ := H
   try dsimp only at H
   have A6 := Aside0.mk A60
   clear A60
   replace H := Option.bind_eq_some_iff.mp H
   obtain ⟨⟨t156, t157, t158⟩, A70, H⟩ := H
   try dsimp only at H
   have A7 := Aside0.mk A70
   clear A70
   have H' := Aside0.mk H
   clear H
   go_enter Try.func17, Try.ntmps17
   go_wp2_with (first | ((with_reducible refine gate_callee (f := 55) rfl ?_); refine goesL_ (some 12) rfl rfl Try.func55 (by kernel_rfl) rfl #[.string a0] rfl zar1 ?_; (with_reducible refine (wire_New.calls a0 t144 t145 w _ ?side1 A2.out).mono ?_); (case side1 => exact zar3); rintro e w8 ⟨g146, rfl, hi, hb, hb2⟩; refine ⟨_, rfl, ?_⟩; have n0_ := Aside0.mk (hb); have n1_ := Aside0.mk (hi); clear HB; have HB := n0_; have HI146 := n1_; clear n0_ n1_; (try clear hb); (try clear hb2); (try clear hk); (try clear hi)) | ((with_reducible refine gate_callee (f := 56) rfl ?_); refine goesL_ (some 14) rfl rfl Try.func56 (by kernel_rfl) rfl #[.pointer (some ⟨g146, 0, none⟩)] rfl zar1 ?_; (with_reducible refine (wire_Reader_Text.calls k g146 t144 t145 t147 t148 t149 w _ ?side1 ?side2 A3.out).mono ?_); (case side1 => exact zar2); (case side2 => exact zar0); rintro e w9 ⟨rfl, hi, hb, hk⟩; refine ⟨_, rfl, ?_⟩; have n0_ := Aside0.mk (hb); have n1_ := Aside0.mk (hi); clear HB; clear HI146; have HB := n0_; have HI146 := n1_; clear n0_ n1_; (try clear hb); (try clear hb2); (try clear hk); (try clear hi)) | ((with_reducible refine gate_callee (f := 56) rfl ?_); refine goesL_ (some 17) rfl rfl Try.func56 (by kernel_rfl) rfl #[.pointer (some ⟨g146, 0, none⟩)] rfl zar1 ?_; (with_reducible refine (wire_Reader_Text.calls k g146 t148 t149 t150 t151 t152 w _ ?side1 ?side2 A5.out).mono ?_); (case side1 => exact zar2); (case side2 => exact zar0); rintro e w10 ⟨rfl, hi, hb, hk⟩; refine ⟨_, rfl, ?_⟩; have n0_ := Aside0.mk (hb); have n1_ := Aside0.mk (hi); clear HB; clear HI146; have HB := n0_; have HI146 := n1_; clear n0_ n1_; (try clear hb); (try clear hb2); (try clear hk); (try clear hi)) | ((with_reducible refine gate_callee (f := 57) rfl ?_); refine goesL_ (some 19) rfl rfl Try.func57 (by kernel_rfl) rfl #[.pointer (some ⟨g146, 0, none⟩)] rfl zar1 ?_; (with_reducible refine (wire_Reader_Int.calls k g146 t151 t152 t153 t154 t155 w _ ?side1 ?side2 A6.out).mono ?_); (case side1 => exact zar2); (case side2 => exact zar0); rintro e w11 ⟨rfl, hi, hb, hk⟩; refine ⟨_, rfl, ?_⟩; have n0_ := Aside0.mk (hb); have n1_ := Aside0.mk (hi); clear HB; clear HI146; have HB := n0_; have HI146 := n1_; clear n0_ n1_; (try clear hb); (try clear hb2); (try clear hk); (try clear hi)) | ((with_reducible refine gate_callee (f := 57) rfl ?_); refine goesL_ (some 21) rfl rfl Try.func57 (by kernel_rfl) rfl #[.pointer (some ⟨g146, 0, none⟩)] rfl zar1 ?_; (with_reducible refine (wire_Reader_Int.calls k g146 t154 t155 t156 t157 t158 w _ ?side1 ?side2 A7.out).mono ?_); (case side1 => exact zar2); (case side2 => exact zar0); rintro e w12 ⟨rfl, hi, hb, hk⟩; refine ⟨_, rfl, ?_⟩; have n0_ := Aside0.mk (hb); have n1_ := Aside0.mk (hi); clear HB; clear HI146; have HB := n0_; have HI146 := n1_; clear n0_ n1_; (try clear hb); (try clear hb2); (try clear hk); (try clear hi)))
   go_loopg [4] k (fun kq v4 w' => ∃ (x4_1 : List (S52)) (x147000_1 : ByteArray) (x147001_1 : Bool), Aside0 (relay_Asked.l0 kq t150 t153 x4_1 t156 x147000_1 x147001_1 = some (r1, r2, r3, r4)) ∧ Aside0 (kq ≤ k) ∧ Aside0 (Kd.R k52 52 w' w.heap.size (fun _ => True) v4 x4_1) ∧ Aside0 (IsS161 w w' g146 x147000_1 x147001_1) ∧ Aside0 (Below w.heap.size w w'))
   case atStart => exact ⟨(([] : List (S52))), (t157), (t158), H', ⟨Nat.le_refl _⟩, ⟨zar7⟩, ⟨zar2⟩, ⟨zar0⟩⟩
   case round =>
    clear H'
    try clear c1
    try clear p2
    try clear c4
    try clear c4b0
    try clear c4b1
    try clear c5
    obtain ⟨x4_1, x147000_1, x147001_1, HA, HK1, HO_4, HI146, HB⟩ := hrel
    cases gk with
    | zero => exact absurd HA.out (by simp [relay_Asked.l0])
    | succ k1 =>
      have H := HA.out
      clear HA
      simp only [relay_Asked.l0] at H
      have HC13 := Aside0.mk H
      clear H
      go_upto_region 6 with (fail)
      go_cut [30] (fun v30 wc => ∃ (kq : Nat) (x30_12 : Bool) (x147000_12 : ByteArray) (x147001_12 : Bool), v30 = .bool x30_12 ∧ Aside0 (relay_Asked.j1 kq t150 t153 x4_1 t156 x30_12 x147000_12 x147001_12 = some (r1, r2, r3, r4)) ∧ Aside0 (kq ≤ k1) ∧ Aside0 (Kd.R k52 52 wc w.heap.size (fun _ => True) u4 x4_1) ∧ Aside0 (IsS161 w wc g146 x147000_12 x147001_12) ∧ Aside0 (Below w.heap.size w wc))
      case first =>
       have H := HC13.out
       clear HC13
       by_cases c14 : (x4_1.length : Int) < t156
       · rw [if_pos c14] at H
         have c14b0 : decide ((x4_1.length : Int) < t156) = true := decide_eq_true c14
         clear c14
         (first | rw [c14b0] | (simp only [i64_w, i32_w]; rw [c14b0]) | skip)
         replace H := Option.bind_eq_some_iff.mp H
         obtain ⟨⟨t159, t160, t161⟩, A150, H⟩ := H
         try dsimp only at H
         have A15 := Aside0.mk A150
         clear A150
         have H' := Aside0.mk H
         clear H
         obtain ⟨Ao16, co16, eo16⟩ := Kd.R_slice HO_4.out
         subst eo16
         go_wp2_with (first | (go_at_call 58; (with_reducible refine (wire_Reader_Bad.calls g146 x147000_1 x147001_1 t159 t160 t161 w _ ?side1 ?side2 A15.out).mono ?_); (case side1 => exact zar2); (case side2 => exact zar0); rintro e w17 ⟨rfl, hi, hb, hk⟩; have n0_ := Aside0.mk (Kd.R_mono (Kd.R_keep (IsS161.apart (show IsS161 w _ g146 x147000_1 x147001_1 from by repeat (first | (with_reducible first | exact HI146.out | apply IsS161.alloc | apply IsS161.drewN | apply IsS161.drew | apply IsS161.set_0 | apply IsS161.set_1) | exact HI146.out)) zar4 (by decide)) hk (fun _ h => h.2)) (fun _ h => h.1)); have n1_ := Aside0.mk (hb); have n2_ := Aside0.mk (hi); clear HO_4; clear HB; clear HI146; have HO_4 := n0_; have HB := n1_; have HI146 := n2_; clear n0_ n1_ n2_; (try clear hb); (try clear hb2); (try clear hk); (try clear hi)))
         go_meet
         case rel => exact ⟨_, (!t159), (t160), (t161), zar8, H', ⟨by have := HK1.out; first | omega | exact Nat.le_refl _⟩, ⟨zar4⟩, ⟨zar2⟩, ⟨zar0⟩⟩
       · rw [if_neg c14] at H
         have c14b0 : decide ((x4_1.length : Int) < t156) = false := decide_eq_false c14
         clear c14
         (first | rw [c14b0] | (simp only [i64_w, i32_w]; rw [c14b0]) | skip)
         have H' := Aside0.mk H
         clear H
         obtain ⟨Ao18, co18, eo18⟩ := Kd.R_slice HO_4.out
         subst eo18
         go_wp2
         go_meet
         case rel => exact ⟨_, (false), (x147000_1), (x147001_1), zar8, H', ⟨by have := HK1.out; first | omega | exact Nat.le_refl _⟩, ⟨zar4⟩, ⟨zar2⟩, ⟨zar0⟩⟩
      case rest =>
       clear HC13
       try clear c1
       try clear p2
       try clear c4
       try clear c4b0
       try clear c4b1
       try clear c5
       try clear c14
       try clear c14b0
       try clear c17
       try clear p2
       obtain ⟨kq, x30_12, x147000_12, x147001_12, rfl, HA, HJ12, HO_4, HI146, HB⟩ := hcut
       cases kq with
       | zero => exact absurd HA.out (by simp [relay_Asked.j1])
       | succ kj12 =>
         have H := HA.out
         clear HA
         simp only [relay_Asked.j1] at H
         by_cases c19 : x30_12 = true
         · subst c19
           rw [if_pos rfl] at H
           replace H := Option.bind_eq_some_iff.mp H
           obtain ⟨⟨t162, t163, t164⟩, A200, H⟩ := H
           try dsimp only at H
           have A20 := Aside0.mk A200
           clear A200
           replace H := Option.bind_eq_some_iff.mp H
           obtain ⟨⟨t165, t166, t167⟩, A210, H⟩ := H
           try dsimp only at H
           have A21 := Aside0.mk A210
           clear A210
           replace H := Option.bind_eq_some_iff.mp H
           obtain ⟨⟨t168, t169, t170⟩, A220, H⟩ := H
           try dsimp only at H
           have A22 := Aside0.mk A220
           clear A220
           by_cases c23 : x4_1.length < 5864062014805
           · rw [if_pos c23] at H
             have LMc23 := Aside0.mk c23
             clear c23
             obtain ⟨y171, hy171⟩ : ∃ y_ : List (S52), y_ = (x4_1 ++ [(⟨t162, t165, t168⟩ : S52)]) := ⟨_, rfl⟩
             replace H : (relay_Asked.l0 kj12 t150 t153 y171 t156 t169 t170) = some (r1, r2, r3, r4) := by first | (rw [hy171]; with_reducible exact H) | (have H2_ := (Option.bind_some _ _).symm.trans H; rw [hy171]; with_reducible exact H2_) | (have H2_ := (Option.bind_some _ _).symm.trans H; with_reducible exact H2_) | with_reducible exact H | (rw [hy171]; exact H) | exact H
             have Ny171 := Aside0.mk hy171
             clear hy171
             have H' := Aside0.mk H
             clear H
             go_wp2_with (first | ((with_reducible refine gate_callee (f := 57) rfl ?_); refine goesL_ (some 32) rfl rfl Try.func57 (by kernel_rfl) rfl #[.pointer (some ⟨g146, 0, none⟩)] rfl zar1 ?_; (with_reducible refine (wire_Reader_Int.calls kj12 g146 x147000_12 x147001_12 t162 t163 t164 w _ ?side1 ?side2 A20.out).mono ?_); (case side1 => exact zar2); (case side2 => exact zar0); rintro e w24 ⟨rfl, hi, hb, hk⟩; refine ⟨_, rfl, ?_⟩; have n0_ := Aside0.mk (Kd.R_mono (Kd.R_keep (IsS161.apart (show IsS161 w _ g146 x147000_12 x147001_12 from by repeat (first | (with_reducible first | exact HI146.out | apply IsS161.alloc | apply IsS161.drewN | apply IsS161.drew | apply IsS161.set_0 | apply IsS161.set_1) | exact HI146.out)) zar4 (by decide)) hk (fun _ h => h.2)) (fun _ h => h.1)); have n1_ := Aside0.mk (hb); have n2_ := Aside0.mk (hi); clear HO_4; clear HB; clear HI146; have HO_4 := n0_; have HB := n1_; have HI146 := n2_; clear n0_ n1_ n2_; (try clear hb); (try clear hb2); (try clear hk); (try clear hi)) | ((with_reducible refine gate_callee (f := 57) rfl ?_); refine goesL_ (some 34) rfl rfl Try.func57 (by kernel_rfl) rfl #[.pointer (some ⟨g146, 0, none⟩)] rfl zar1 ?_; (with_reducible refine (wire_Reader_Int.calls kj12 g146 t163 t164 t165 t166 t167 w _ ?side1 ?side2 A21.out).mono ?_); (case side1 => exact zar2); (case side2 => exact zar0); rintro e w25 ⟨rfl, hi, hb, hk⟩; refine ⟨_, rfl, ?_⟩; have n0_ := Aside0.mk (Kd.R_mono (Kd.R_keep (IsS161.apart (show IsS161 w _ g146 t163 t164 from by repeat (first | (with_reducible first | exact HI146.out | apply IsS161.alloc | apply IsS161.drewN | apply IsS161.drew | apply IsS161.set_0 | apply IsS161.set_1) | exact HI146.out)) zar4 (by decide)) hk (fun _ h => h.2)) (fun _ h => h.1)); have n1_ := Aside0.mk (hb); have n2_ := Aside0.mk (hi); clear HO_4; clear HB; clear HI146; have HO_4 := n0_; have HB := n1_; have HI146 := n2_; clear n0_ n1_ n2_; (try clear hb); (try clear hb2); (try clear hk); (try clear hi)) | ((with_reducible refine gate_callee (f := 57) rfl ?_); refine goesL_ (some 36) rfl rfl Try.func57 (by kernel_rfl) rfl #[.pointer (some ⟨g146, 0, none⟩)] rfl zar1 ?_; (with_reducible refine (wire_Reader_Int.calls kj12 g146 t166 t167 t168 t169 t170 w _ ?side1 ?side2 A22.out).mono ?_); (case side1 => exact zar2); (case side2 => exact zar0); rintro e w26 ⟨rfl, hi, hb, hk⟩; refine ⟨_, rfl, ?_⟩; have n0_ := Aside0.mk (Kd.R_mono (Kd.R_keep (IsS161.apart (show IsS161 w _ g146 t166 t167 from by repeat (first | (with_reducible first | exact HI146.out | apply IsS161.alloc | apply IsS161.drewN | apply IsS161.drew | apply IsS161.set_0 | apply IsS161.set_1) | exact HI146.out)) zar4 (by decide)) hk (fun _ h => h.2)) (fun _ h => h.1)); have n1_ := Aside0.mk (hb); have n2_ := Aside0.mk (hi); clear HO_4; clear HB; clear HI146; have HO_4 := n0_; have HB := n1_; have HI146 := n2_; clear n0_ n1_ n2_; (try clear hb); (try clear hb2); (try clear hk); (try clear hi)) | ((with_reducible refine gate_builtin (b := .append) (xs := #[.tmp 37, .tmp 42]) rfl ?_); at_builtin; refine Kd.R_append k52 (w0 := w) w.heap.size rfl (.tmp 37) (.tmp 42) 33 52 (.agg #[(.int .i64 0), (.int .i64 0), (.int .i64 0)]) 24 rfl Try.underlying33 info52 rfl (by decide) (by omega) u4 x4_1 (⟨t162, t165, t168⟩ : S52) [.int .i64 t162, .int .i64 t165, .int .i64 t168] (fun _ => True) (fun _ => False) rfl rfl ?aP (fun _ hk => hk.elim) ?aF ?aO ?aB ?aS ?aL ?_; (case aP => exact k52_mkM _ _ _ (⟨t162, t165, t168⟩ : S52)); (case aB => exact zar0); (case aF => exact (fun _ _ => trivial)); (case aO => exact zar4); (case aS => exact (below_size zar0)); (case aL => have := LMc23.out; omega); intro v172 w27 ho hb hg hat; rw [← Ny171.out] at ho; have n0_ := Aside0.mk (IsS161.grown zar2 hg (IsS161.own_ne HI146.out HO_4.out (by decide))); have n1_ := Aside0.mk (hb); have n2_ := Aside0.mk (ho); clear HI146; clear HB; clear HO_4; have HI146 := n0_; have HB := n1_; have HO173 := n2_; clear n0_ n1_ n2_; clear ho hb hg hat))
             go_roundg kj12
             case measure => have := HK1.out; have := HJ12.out; omega
             case rel => exact ⟨(y171), (t169), (t170), H', ⟨by have := HK1.out; have := HJ12.out; omega⟩, ⟨by (with_reducible repeat (first | apply Kd.R_alloc | apply Kd.R_drewN | apply Kd.R_drew)); exact HO173.out⟩, ⟨zar2⟩, ⟨zar0⟩⟩
           · rw [if_neg c23] at H
             exact absurd H (by simp)
         · replace c19 := Bool.eq_false_iff.mpr c19
           subst c19
           rw [if_neg (show ¬ (false = true) by decide)] at H
           replace H := Option.bind_eq_some_iff.mp H
           obtain ⟨⟨t174, t175, t176⟩, A280, H⟩ := H
           try dsimp only at H
           have A28 := Aside0.mk A280
           clear A280
           by_cases c29 : t174 = true
           · subst c29
             rw [if_pos rfl] at H
             simp only [Option.some.injEq, Prod.mk.injEq] at H
             obtain ⟨rfl, rfl, rfl, rfl⟩ := H
             go_wp2_with (first | ((with_reducible refine gate_callee (f := 58) rfl ?_); refine goesL_ (some 45) rfl rfl Try.func58 (by kernel_rfl) rfl #[.pointer (some ⟨g146, 0, none⟩)] rfl zar1 ?_; (with_reducible refine (wire_Reader_Bad.calls g146 x147000_12 x147001_12 true t175 t176 w _ ?side1 ?side2 A28.out).mono ?_); (case side1 => exact zar2); (case side2 => exact zar0); rintro e w30 ⟨rfl, hi, hb, hk⟩; refine ⟨_, rfl, ?_⟩; have n0_ := Aside0.mk (Kd.R_mono (Kd.R_keep (IsS161.apart (show IsS161 w _ g146 x147000_12 x147001_12 from by repeat (first | (with_reducible first | exact HI146.out | apply IsS161.alloc | apply IsS161.drewN | apply IsS161.drew | apply IsS161.set_0 | apply IsS161.set_1) | exact HI146.out)) zar4 (by decide)) hk (fun _ h => h.2)) (fun _ h => h.1)); have n1_ := Aside0.mk (hb); have n2_ := Aside0.mk (hi); clear HO_4; clear HB; clear HI146; have HO_4 := n0_; have HB := n1_; have HI146 := n2_; clear n0_ n1_ n2_; (try clear hb); (try clear hb2); (try clear hk); (try clear hi)))
             refine bodyPost_ret (results_list (rs := [.tmp 2, .tmp 3, .tmp 4, .tmp 5]) rfl (by simp) (.tmp (.tmp (.tmp (.tmp .nil))))) rfl ?_
             exact ⟨_, zar6, zar7, zar0⟩
           · replace c29 := Bool.eq_false_iff.mpr c29
             subst c29
             rw [if_neg (show ¬ (false = true) by decide)] at H
             by_cases c31 : t156 < 0
             · rw [if_pos c31] at H
               have c31b0 : decide (t156 < 0) = true := decide_eq_true c31
               clear c31
               simp only [Option.some.injEq, Prod.mk.injEq] at H
               obtain ⟨rfl, rfl, rfl, rfl⟩ := H
               go_wp2_with (first | ((with_reducible refine gate_callee (f := 58) rfl ?_); refine goesL_ (some 45) rfl rfl Try.func58 (by kernel_rfl) rfl #[.pointer (some ⟨g146, 0, none⟩)] rfl zar1 ?_; (with_reducible refine (wire_Reader_Bad.calls g146 x147000_12 x147001_12 false t175 t176 w _ ?side1 ?side2 A28.out).mono ?_); (case side1 => exact zar2); (case side2 => exact zar0); rintro e w32 ⟨rfl, hi, hb, hk⟩; refine ⟨_, rfl, ?_⟩; have n0_ := Aside0.mk (Kd.R_mono (Kd.R_keep (IsS161.apart (show IsS161 w _ g146 x147000_12 x147001_12 from by repeat (first | (with_reducible first | exact HI146.out | apply IsS161.alloc | apply IsS161.drewN | apply IsS161.drew | apply IsS161.set_0 | apply IsS161.set_1) | exact HI146.out)) zar4 (by decide)) hk (fun _ h => h.2)) (fun _ h => h.1)); have n1_ := Aside0.mk (hb); have n2_ := Aside0.mk (hi); clear HO_4; clear HB; clear HI146; have HO_4 := n0_; have HB := n1_; have HI146 := n2_; clear n0_ n1_ n2_; (try clear hb); (try clear hb2); (try clear hk); (try clear hi)))
               refine bodyPost_ret (results_list (rs := [.tmp 2, .tmp 3, .tmp 4, .tmp 5]) rfl (by simp) (.tmp (.tmp (.tmp (.tmp .nil))))) rfl ?_
               exact ⟨_, zar6, zar7, zar0⟩
             · rw [if_neg c31] at H
               have c31b0 : decide (t156 < 0) = false := decide_eq_false c31
               clear c31
               replace H := Option.bind_eq_some_iff.mp H
               obtain ⟨⟨t177, t178, t179⟩, A330, H⟩ := H
               try dsimp only at H
               have A33 := Aside0.mk A330
               clear A330
               by_cases c34 : t177 > 0
               · rw [if_pos c34] at H
                 have c34b0 : decide (0 < t177) = true := decide_eq_true c34
                 clear c34
                 simp only [Option.some.injEq, Prod.mk.injEq] at H
                 obtain ⟨rfl, rfl, rfl, rfl⟩ := H
                 go_wp2_with (first | ((with_reducible refine gate_callee (f := 58) rfl ?_); refine goesL_ (some 45) rfl rfl Try.func58 (by kernel_rfl) rfl #[.pointer (some ⟨g146, 0, none⟩)] rfl zar1 ?_; (with_reducible refine (wire_Reader_Bad.calls g146 x147000_12 x147001_12 false t175 t176 w _ ?side1 ?side2 A28.out).mono ?_); (case side1 => exact zar2); (case side2 => exact zar0); rintro e w35 ⟨rfl, hi, hb, hk⟩; refine ⟨_, rfl, ?_⟩; have n0_ := Aside0.mk (Kd.R_mono (Kd.R_keep (IsS161.apart (show IsS161 w _ g146 x147000_12 x147001_12 from by repeat (first | (with_reducible first | exact HI146.out | apply IsS161.alloc | apply IsS161.drewN | apply IsS161.drew | apply IsS161.set_0 | apply IsS161.set_1) | exact HI146.out)) zar4 (by decide)) hk (fun _ h => h.2)) (fun _ h => h.1)); have n1_ := Aside0.mk (hb); have n2_ := Aside0.mk (hi); clear HO_4; clear HB; clear HI146; have HO_4 := n0_; have HB := n1_; have HI146 := n2_; clear n0_ n1_ n2_; (try clear hb); (try clear hb2); (try clear hk); (try clear hi)) | (go_at_call 59; (with_reducible refine (wire_Reader_Left.calls g146 t175 t176 t177 t178 t179 w _ ?side1 ?side2 A33.out).mono ?_); (case side1 => exact zar2); (case side2 => exact zar0); rintro e w36 ⟨rfl, hi, hb, hk⟩; have n0_ := Aside0.mk (Kd.R_mono (Kd.R_keep (IsS161.apart (show IsS161 w _ g146 t175 t176 from by repeat (first | (with_reducible first | exact HI146.out | apply IsS161.alloc | apply IsS161.drewN | apply IsS161.drew | apply IsS161.set_0 | apply IsS161.set_1) | exact HI146.out)) zar4 (by decide)) hk (fun _ h => h.2)) (fun _ h => h.1)); have n1_ := Aside0.mk (hb); have n2_ := Aside0.mk (hi); clear HO_4; clear HB; clear HI146; have HO_4 := n0_; have HB := n1_; have HI146 := n2_; clear n0_ n1_ n2_; (try clear hb); (try clear hb2); (try clear hk); (try clear hi)))
                 refine bodyPost_ret (results_list (rs := [.tmp 2, .tmp 3, .tmp 4, .tmp 5]) rfl (by simp) (.tmp (.tmp (.tmp (.tmp .nil))))) rfl ?_
                 exact ⟨_, zar6, zar7, zar0⟩
               · rw [if_neg c34] at H
                 have c34b0 : decide (0 < t177) = false := decide_eq_false c34
                 clear c34
                 simp only [Option.some.injEq, Prod.mk.injEq] at H
                 obtain ⟨rfl, rfl, rfl, rfl⟩ := H
                 go_wp2_with (first | ((with_reducible refine gate_callee (f := 58) rfl ?_); refine goesL_ (some 45) rfl rfl Try.func58 (by kernel_rfl) rfl #[.pointer (some ⟨g146, 0, none⟩)] rfl zar1 ?_; (with_reducible refine (wire_Reader_Bad.calls g146 x147000_12 x147001_12 false t175 t176 w _ ?side1 ?side2 A28.out).mono ?_); (case side1 => exact zar2); (case side2 => exact zar0); rintro e w37 ⟨rfl, hi, hb, hk⟩; refine ⟨_, rfl, ?_⟩; have n0_ := Aside0.mk (Kd.R_mono (Kd.R_keep (IsS161.apart (show IsS161 w _ g146 x147000_12 x147001_12 from by repeat (first | (with_reducible first | exact HI146.out | apply IsS161.alloc | apply IsS161.drewN | apply IsS161.drew | apply IsS161.set_0 | apply IsS161.set_1) | exact HI146.out)) zar4 (by decide)) hk (fun _ h => h.2)) (fun _ h => h.1)); have n1_ := Aside0.mk (hb); have n2_ := Aside0.mk (hi); clear HO_4; clear HB; clear HI146; have HO_4 := n0_; have HB := n1_; have HI146 := n2_; clear n0_ n1_ n2_; (try clear hb); (try clear hb2); (try clear hk); (try clear hi)) | (go_at_call 59; (with_reducible refine (wire_Reader_Left.calls g146 t175 t176 t177 t178 t179 w _ ?side1 ?side2 A33.out).mono ?_); (case side1 => exact zar2); (case side2 => exact zar0); rintro e w38 ⟨rfl, hi, hb, hk⟩; have n0_ := Aside0.mk (Kd.R_mono (Kd.R_keep (IsS161.apart (show IsS161 w _ g146 t175 t176 from by repeat (first | (with_reducible first | exact HI146.out | apply IsS161.alloc | apply IsS161.drewN | apply IsS161.drew | apply IsS161.set_0 | apply IsS161.set_1) | exact HI146.out)) zar4 (by decide)) hk (fun _ h => h.2)) (fun _ h => h.1)); have n1_ := Aside0.mk (hb); have n2_ := Aside0.mk (hi); clear HO_4; clear HB; clear HI146; have HO_4 := n0_; have HB := n1_; have HI146 := n2_; clear n0_ n1_ n2_; (try clear hb); (try clear hb2); (try clear hk); (try clear hi)))
                 refine bodyPost_ret (results_list (rs := [.tmp 2, .tmp 3, .tmp 4, .tmp 5]) rfl (by simp) (.tmp (.tmp (.tmp (.tmp .nil))))) rfl ?_
                 exact ⟨_, zar6, zar4, zar0⟩
 · rw [if_neg c4] at H
   have c4b0 : (t147.toList == ([97, 115, 107] : List UInt8)) = false := beq_eq_false_iff_ne.mpr c4
   have c4b1 : (t147.toList != ([97, 115, 107] : List UInt8)) = true := bne_iff_ne.mpr c4
   simp only [Option.some.injEq, Prod.mk.injEq] at H
   obtain ⟨rfl, rfl, rfl, rfl⟩ := H
   go_enter Try.func17, Try.ntmps17
   go_wp2_with (first | ((with_reducible refine gate_callee (f := 55) rfl ?_); refine goesL_ (some 12) rfl rfl Try.func55 (by kernel_rfl) rfl #[.string a0] rfl zar1 ?_; (with_reducible refine (wire_New.calls a0 t144 t145 w _ ?side1 A2.out).mono ?_); (case side1 => exact zar3); rintro e w39 ⟨g146, rfl, hi, hb, hb2⟩; refine ⟨_, rfl, ?_⟩; have n0_ := Aside0.mk (hb); have n1_ := Aside0.mk (hi); clear HB; have HB := n0_; have HI146 := n1_; clear n0_ n1_; (try clear hb); (try clear hb2); (try clear hk); (try clear hi)) | ((with_reducible refine gate_callee (f := 56) rfl ?_); refine goesL_ (some 14) rfl rfl Try.func56 (by kernel_rfl) rfl #[.pointer (some ⟨g146, 0, none⟩)] rfl zar1 ?_; (with_reducible refine (wire_Reader_Text.calls k g146 t144 t145 t147 t148 t149 w _ ?side1 ?side2 A3.out).mono ?_); (case side1 => exact zar2); (case side2 => exact zar0); rintro e w40 ⟨rfl, hi, hb, hk⟩; refine ⟨_, rfl, ?_⟩; have n0_ := Aside0.mk (hb); have n1_ := Aside0.mk (hi); clear HB; clear HI146; have HB := n0_; have HI146 := n1_; clear n0_ n1_; (try clear hb); (try clear hb2); (try clear hk); (try clear hi)))
   refine bodyPost_ret (results_list (rs := [.tmp 2, .tmp 3, .tmp 4, .tmp 5]) rfl (by simp) (.tmp (.tmp (.tmp (.tmp .nil))))) rfl ?_
   exact ⟨_, zar6, zar7, zar0⟩

def abugidaref35_Ask.l0 : Nat → List (S52) → ByteArray → Int → Option (ByteArray)
 | 0, _, _, _ => none
 | k + 1, x2, x7, x8 => if x8 < (x2.length : Int) then (if 0 ≤ x8 then ((abugidaref02_Int.f k ((rd_T52 x2 x8).f0)).bind fun t319 => (if x7.size + t319.size ≤ 9223372036854775807 then ((abugidaref02_Int.f k ((rd_T52 x2 x8).f1)).bind fun t321 => (if (x7 ++ t319).size + t321.size ≤ 9223372036854775807 then ((abugidaref02_Int.f k ((rd_T52 x2 x8).f2)).bind fun t323 => (if ((x7 ++ t319) ++ t321).size + t323.size ≤ 9223372036854775807 then (abugidaref35_Ask.l0 k x2 (((x7 ++ t319) ++ t321) ++ t323) (wrap64 (x8 + 1))) else (none))) else (none))) else (none))) else (none)) else (some x7)
def abugidaref35_Ask.f (k : Nat) (a0 : ByteArray) (a1 : Int) (l2 : List (S52)) : Option (ByteArray) := (abugidaref02_Text.f k (⟨#[97, 115, 107]⟩ : ByteArray)).bind fun t314 => ((abugidaref02_Text.f k a0).bind fun t315 => (if t314.size + t315.size ≤ 9223372036854775807 then ((abugidaref02_Int.f k a1).bind fun t316 => (if (t314 ++ t315).size + t316.size ≤ 9223372036854775807 then ((abugidaref02_Int.f k (l2.length : Int)).bind fun t317 => (if ((t314 ++ t315) ++ t316).size + t317.size ≤ 9223372036854775807 then (abugidaref35_Ask.l0 k l2 (((t314 ++ t315) ++ t316) ++ t317) 0) else (none))) else (none))) else (none)))
def abugidaref35_Ask.T5 : Bool × List (List Nat × List Nat) := (true, [([], []), ([], []), ([], []), ([1, 2], [1, 2]), ([3], [3]), ([4], [4]), ([5], [5]), ([0, 6], [0, 6]), ([], []), ([], []), ([8, 9], [8, 9]), ([10], [10]), ([11], [11]), ([12, 6], [12]), ([7, 13], [7, 13]), ([], []), ([], []), ([15, 16], [15, 16]), ([17], [17]), ([18], [18]), ([19, 13], [19]), ([14, 20], [14, 20]), ([21, 20, 0, 1, 2, 3, 4, 5, 6, 7, 8, 9, 10, 11, 12, 13, 14, 15, 16, 17, 18, 19, 20, 21], [0, 21])])
def abugidaref35_Ask.B5 : List Nat := [0, 0, 0, 6, 14, 30, 62, 127, 0, 0, 768, 1792, 3840, 8062, 16383, 0, 0, 98304, 229376, 491520, 1032062, 2097151, 4194303]
theorem abugidaref35_Ask.tab5 : rtab .any (opsOf Try.f18 5) = abugidaref35_Ask.T5 := by kernel_rfl
theorem abugidaref35_Ask.bits5 : waitsOk abugidaref35_Ask.T5.2 abugidaref35_Ask.B5 = true := by kernel_rfl
set_option maxHeartbeats 8000000 in
set_option maxRecDepth 100000 in
theorem abugidaref35_Ask.calls (k : Nat) (a0 : ByteArray) (a1 : Int) (A2 : Option Addr) (c2 : Nat) (l2 : List (S52)) (r : ByteArray) (w : World) (hr2 : Kd.C k52 w A2 l2.length l2) (hc2 : l2.length ≤ c2) (h : abugidaref35_Ask.f k a0 a1 l2 = some r) :
 Calls Try.prog 18 #[.string a0, .int .i64 a1, .slice A2 l2.length c2] w fun e w' => e = .returned (.string r) ∧ Below w.heap.size w w' := by
 have HR2 := Aside0.mk hr2
 have HC2 := Aside0.mk hc2
 clear hr2 hc2
 have HB := Aside0.mk (Below.refl w.heap.size w)
 have H : ((abugidaref02_Text.f k (⟨#[97, 115, 107]⟩ : ByteArray)).bind fun t314 => ((abugidaref02_Text.f k a0).bind fun t315 => (if t314.size + t315.size ≤ 9223372036854775807 then ((abugidaref02_Int.f k a1).bind fun t316 => (if (t314 ++ t315).size + t316.size ≤ 9223372036854775807 then ((abugidaref02_Int.f k (l2.length : Int)).bind fun t317 => (if ((t314 ++ t315) ++ t316).size + t317.size ≤ 9223372036854775807 then (abugidaref35_Ask.l0 k l2 (((t314 ++ t315) ++ t316) ++ t317) 0) else (none))) else (none))) else (none)))) = some r := h
 clear h
 replace H := Option.bind_eq_some_iff.mp H
 obtain ⟨t314, A40, H⟩ := H
 try dsimp only at H
 have A4 := Aside0.mk A40
 clear A40
 replace H := Option.bind_eq_some_iff.mp H
 obtain ⟨t315, A50, H⟩ := H
 try dsimp only at H
 have A5 := Aside0.mk A50
 clear A50
 by_cases c6 : t314.size + t315.size ≤ 9223372036854775807
 · rw [if_pos c6] at H
   have c6b0 := eq_true c6
   have c6b1 : decide (t314.size + t315.size ≤ 9223372036854775807) = true := decide_eq_true c6
   try have c6b2 : (9223372036854775807 < t314.size + t315.size) = False := eq_false (Nat.not_lt.2 c6)
   replace H := Option.bind_eq_some_iff.mp H
   obtain ⟨t316, A70, H⟩ := H
   try dsimp only at H
   have A7 := Aside0.mk A70
   clear A70
   by_cases c8 : (t314 ++ t315).size + t316.size ≤ 9223372036854775807
   · rw [if_pos c8] at H
     have c8b0 := eq_true c8
     have c8b1 : decide ((t314 ++ t315).size + t316.size ≤ 9223372036854775807) = true := decide_eq_true c8
     try have c8b2 : (9223372036854775807 < (t314 ++ t315).size + t316.size) = False := eq_false (Nat.not_lt.2 c8)
     try (have c8e := c8; simp only [ByteArray.size_append] at c8e; have c8e1 := eq_true c8e; have c8e2 := eq_false (Nat.not_lt.2 c8e); clear c8e)
     replace H := Option.bind_eq_some_iff.mp H
     obtain ⟨t317, A90, H⟩ := H
     try dsimp only at H
     have A9 := Aside0.mk A90
     clear A90
     by_cases c10 : ((t314 ++ t315) ++ t316).size + t317.size ≤ 9223372036854775807
     · rw [if_pos c10] at H
       have c10b0 := eq_true c10
       have c10b1 : decide (((t314 ++ t315) ++ t316).size + t317.size ≤ 9223372036854775807) = true := decide_eq_true c10
       try have c10b2 : (9223372036854775807 < ((t314 ++ t315) ++ t316).size + t317.size) = False := eq_false (Nat.not_lt.2 c10)
       try (have c10e := c10; simp only [ByteArray.size_append] at c10e; have c10e1 := eq_true c10e; have c10e2 := eq_false (Nat.not_lt.2 c10e); clear c10e)
       have H' := Aside0.mk H
       clear H
       go_enter Try.func18, Try.ntmps18
       go_wp2_with (first | ((with_reducible refine gate_callee (f := 52) rfl ?_); refine goesL_ (some 9) rfl rfl Try.func52 (by kernel_rfl) rfl #[.string (⟨#[97, 115, 107]⟩ : ByteArray)] rfl zar1 ?_; (with_reducible refine (abugidaref02_Text.calls k (⟨#[97, 115, 107]⟩ : ByteArray) t314 _ A4.out).mono ?_); rintro e w11 ⟨rfl, hb⟩; refine ⟨_, rfl, ?_⟩; have n0_ := Aside0.mk (below_step zar3 hb); clear HB; have HB := n0_; clear n0_; (try clear hb); (try clear hb2); (try clear hk); (try clear hi)) | ((with_reducible refine gate_callee (f := 52) rfl ?_); refine goesL_ (some 11) rfl rfl Try.func52 (by kernel_rfl) rfl #[.string a0] rfl zar1 ?_; (with_reducible refine (abugidaref02_Text.calls k a0 t315 _ A5.out).mono ?_); rintro e w12 ⟨rfl, hb⟩; refine ⟨_, rfl, ?_⟩; have n0_ := Aside0.mk (below_step zar3 hb); clear HB; have HB := n0_; clear n0_; (try clear hb); (try clear hb2); (try clear hk); (try clear hi)) | ((with_reducible refine gate_callee (f := 53) rfl ?_); refine goesL_ (some 14) rfl rfl Try.func53 (by kernel_rfl) rfl #[.int .i64 a1] rfl zar1 ?_; (with_reducible refine (abugidaref02_Int.calls k a1 t316 _ A7.out).mono ?_); rintro e w13 ⟨rfl, hb⟩; refine ⟨_, rfl, ?_⟩; have n0_ := Aside0.mk (below_step zar3 hb); clear HB; have HB := n0_; clear n0_; (try clear hb); (try clear hb2); (try clear hk); (try clear hi)) | ((with_reducible refine gate_callee (f := 53) rfl ?_); refine goesL_ (some 18) rfl rfl Try.func53 (by kernel_rfl) rfl #[.int .i64 (l2.length : Int)] rfl zar1 ?_; (with_reducible refine (abugidaref02_Int.calls k (l2.length : Int) t317 _ A9.out).mono ?_); rintro e w14 ⟨rfl, hb⟩; refine ⟨_, rfl, ?_⟩; have n0_ := Aside0.mk (below_step zar3 hb); clear HB; have HB := n0_; clear n0_; (try clear hb); (try clear hb2); (try clear hk); (try clear hi)))
       go_loopg [7, 8] k (fun kq v7 v8 w' => ∃ (x7_1 : ByteArray) (x8_1 : Int), v7 = .string x7_1 ∧ v8 = .int .i64 x8_1 ∧ Aside0 (abugidaref35_Ask.l0 kq l2 x7_1 x8_1 = some r) ∧ Aside0 (kq ≤ k) ∧ Aside0 (Below w.heap.size w w'))
       case atStart => exact ⟨(((t314 ++ t315) ++ t316) ++ t317), (0), zar8, zar8, H', ⟨Nat.le_refl _⟩, ⟨zar3⟩⟩
       case round =>
        clear H'
        try clear c1
        try clear c2
        try clear p2
        try clear c5
        try clear c6
        try clear c6b0
        try clear c6b1
        try clear c6b2
        try clear c8
        try clear c8b0
        try clear c8b1
        try clear c8b2
        try clear c10
        try clear c10b0
        try clear c10b1
        try clear c10b2
        obtain ⟨x7_1, x8_1, rfl, rfl, HA, HK1, HB⟩ := hrel
        cases gk with
        | zero => exact absurd HA.out (by simp [abugidaref35_Ask.l0])
        | succ k1 =>
          have H := HA.out
          clear HA
          simp only [abugidaref35_Ask.l0] at H
          by_cases c15 : x8_1 < (l2.length : Int)
          · rw [if_pos c15] at H
            have c15b0 : decide (x8_1 < (l2.length : Int)) = true := decide_eq_true c15
            clear c15
            by_cases c16 : 0 ≤ x8_1
            · rw [if_pos c16] at H
              have c16b0 : decide (0 ≤ x8_1) = true := decide_eq_true c16
              clear c16
              replace H := Option.bind_eq_some_iff.mp H
              obtain ⟨t319, A170, H⟩ := H
              try dsimp only at H
              have A17 := Aside0.mk A170
              clear A170
              by_cases c18 : x7_1.size + t319.size ≤ 9223372036854775807
              · rw [if_pos c18] at H
                have c18b0 := eq_true c18
                have c18b1 : decide (x7_1.size + t319.size ≤ 9223372036854775807) = true := decide_eq_true c18
                try have c18b2 : (9223372036854775807 < x7_1.size + t319.size) = False := eq_false (Nat.not_lt.2 c18)
                replace H := Option.bind_eq_some_iff.mp H
                obtain ⟨t321, A190, H⟩ := H
                try dsimp only at H
                have A19 := Aside0.mk A190
                clear A190
                by_cases c20 : (x7_1 ++ t319).size + t321.size ≤ 9223372036854775807
                · rw [if_pos c20] at H
                  have c20b0 := eq_true c20
                  have c20b1 : decide ((x7_1 ++ t319).size + t321.size ≤ 9223372036854775807) = true := decide_eq_true c20
                  try have c20b2 : (9223372036854775807 < (x7_1 ++ t319).size + t321.size) = False := eq_false (Nat.not_lt.2 c20)
                  try (have c20e := c20; simp only [ByteArray.size_append] at c20e; have c20e1 := eq_true c20e; have c20e2 := eq_false (Nat.not_lt.2 c20e); clear c20e)
                  replace H := Option.bind_eq_some_iff.mp H
                  obtain ⟨t323, A210, H⟩ := H
                  try dsimp only at H
                  have A21 := Aside0.mk A210
                  clear A210
                  by_cases c22 : ((x7_1 ++ t319) ++ t321).size + t323.size ≤ 9223372036854775807
                  · rw [if_pos c22] at H
                    have c22b0 := eq_true c22
                    have c22b1 : decide (((x7_1 ++ t319) ++ t321).size + t323.size ≤ 9223372036854775807) = true := decide_eq_true c22
                    try have c22b2 : (9223372036854775807 < ((x7_1 ++ t319) ++ t321).size + t323.size) = False := eq_false (Nat.not_lt.2 c22)
                    try (have c22e := c22; simp only [ByteArray.size_append] at c22e; have c22e1 := eq_true c22e; have c22e2 := eq_false (Nat.not_lt.2 c22e); clear c22e)
                    have H' := Aside0.mk H
                    clear H
                    try go_wp2
                    have n0_ := Aside0.mk (below_drew1 HB.out)
                    clear HB
                    have HB := n0_
                    clear n0_
                    have p318 : 0 ≤ (x8_1 : Int) := of_decide_eq_true zar9
                    have q318 : x8_1 < (l2.length : Int) := of_decide_eq_true zar9
                    obtain ⟨ad318, e318, hx318_0, hx318_1, hx318_2⟩ := at_T52 HR2.out x8_1 p318 q318
                    have hw318_2 := hx318_2
                    have hw318_1 := hx318_1
                    have hw318_0 := hx318_0
                    cases e318
                    replace hx318_0 := (HB.out.cell (World.block_lt_of_cell? w _ hx318_0)).trans hx318_0
                    replace hx318_1 := (HB.out.cell (World.block_lt_of_cell? w _ hx318_1)).trans hx318_1
                    replace hx318_2 := (HB.out.cell (World.block_lt_of_cell? w _ hx318_2)).trans hx318_2
                    replace p318 := eq_true p318
                    replace q318 := eq_true q318
                    have p320 : 0 ≤ (x8_1 : Int) := of_decide_eq_true zar9
                    have q320 : x8_1 < (l2.length : Int) := of_decide_eq_true zar9
                    obtain ⟨ad320, e320, hx320_0, hx320_1, hx320_2⟩ := at_T52 HR2.out x8_1 p320 q320
                    have hw320_2 := hx320_2
                    have hw320_1 := hx320_1
                    have hw320_0 := hx320_0
                    obtain rfl : ad318 = ad320 := (by injection e320)
                    replace hx320_0 := (HB.out.cell (World.block_lt_of_cell? w _ hx320_0)).trans hx320_0
                    replace hx320_1 := (HB.out.cell (World.block_lt_of_cell? w _ hx320_1)).trans hx320_1
                    replace hx320_2 := (HB.out.cell (World.block_lt_of_cell? w _ hx320_2)).trans hx320_2
                    replace p320 := eq_true p320
                    replace q320 := eq_true q320
                    have p322 : 0 ≤ (x8_1 : Int) := of_decide_eq_true zar9
                    have q322 : x8_1 < (l2.length : Int) := of_decide_eq_true zar9
                    obtain ⟨ad322, e322, hx322_0, hx322_1, hx322_2⟩ := at_T52 HR2.out x8_1 p322 q322
                    have hw322_2 := hx322_2
                    have hw322_1 := hx322_1
                    have hw322_0 := hx322_0
                    obtain rfl : ad318 = ad322 := (by injection e322)
                    replace hx322_0 := (HB.out.cell (World.block_lt_of_cell? w _ hx322_0)).trans hx322_0
                    replace hx322_1 := (HB.out.cell (World.block_lt_of_cell? w _ hx322_1)).trans hx322_1
                    replace hx322_2 := (HB.out.cell (World.block_lt_of_cell? w _ hx322_2)).trans hx322_2
                    replace p322 := eq_true p322
                    replace q322 := eq_true q322
                    refine start_ (n := 23) (S := fun w' => w'.cell? (ad318.add ((x8_1).toNat * 3)) = some (.int .i64 ((rd_T52 l2 x8_1).f0)) ∧ w'.cell? ⟨(ad318.add ((x8_1).toNat * 3)).block, (ad318.add ((x8_1).toNat * 3)).off + 1, none⟩ = some (.int .i64 ((rd_T52 l2 x8_1).f1)) ∧ w'.cell? ⟨(ad318.add ((x8_1).toNat * 3)).block, (ad318.add ((x8_1).toNat * 3)).off + 2, none⟩ = some (.int .i64 ((rd_T52 l2 x8_1).f2)) ∧ w'.cell? (ad318.add ((x8_1).toNat * 3)) = some (.int .i64 ((rd_T52 l2 x8_1).f0)) ∧ w'.cell? ⟨(ad318.add ((x8_1).toNat * 3)).block, (ad318.add ((x8_1).toNat * 3)).off + 1, none⟩ = some (.int .i64 ((rd_T52 l2 x8_1).f1)) ∧ w'.cell? ⟨(ad318.add ((x8_1).toNat * 3)).block, (ad318.add ((x8_1).toNat * 3)).off + 2, none⟩ = some (.int .i64 ((rd_T52 l2 x8_1).f2)) ∧ w'.cell? (ad318.add ((x8_1).toNat * 3)) = some (.int .i64 ((rd_T52 l2 x8_1).f0)) ∧ w'.cell? ⟨(ad318.add ((x8_1).toNat * 3)).block, (ad318.add ((x8_1).toNat * 3)).off + 1, none⟩ = some (.int .i64 ((rd_T52 l2 x8_1).f1)) ∧ w'.cell? ⟨(ad318.add ((x8_1).toNat * 3)).block, (ad318.add ((x8_1).toNat * 3)).off + 2, none⟩ = some (.int .i64 ((rd_T52 l2 x8_1).f2))) (ds := []) #[false, false, false, false, false, false, false, false, false, false, false, false, false, false, false, false, false, false, false, false, false, false, false] (by kernel_rfl) rfl rfl ⟨((HB.out.cell (World.block_lt_of_cell? w _ hw318_0)).trans hw318_0), ((HB.out.cell (World.block_lt_of_cell? w _ hw318_1)).trans hw318_1), ((HB.out.cell (World.block_lt_of_cell? w _ hw318_2)).trans hw318_2), ((HB.out.cell (World.block_lt_of_cell? w _ hw320_0)).trans hw320_0), ((HB.out.cell (World.block_lt_of_cell? w _ hw320_1)).trans hw320_1), ((HB.out.cell (World.block_lt_of_cell? w _ hw320_2)).trans hw320_2), ((HB.out.cell (World.block_lt_of_cell? w _ hw322_0)).trans hw322_0), ((HB.out.cell (World.block_lt_of_cell? w _ hw322_1)).trans hw322_1), ((HB.out.cell (World.block_lt_of_cell? w _ hw322_2)).trans hw322_2)⟩ (fun hHeld => ?_); refine with_tabW abugidaref35_Ask.tab5 abugidaref35_Ask.bits5 (fun HT_ HW_ => ?_)
                    generalize wr.drew = w23 at HB hx318_0 hx318_1 hx318_2 hx320_0 hx320_1 hx320_2 hx322_0 hx322_1 hx322_2 hHeld ⊢
                    refine pure_ (i := 0) (N := some 26) (v := ?_) (a' := ?_) #[true, false, false, false, false, false, false, false, false, false, false, false, false, false, false, false, false, false, false, false, false, false, false] rfl rfl (any_of HT_.out (by kernel_rfl)) (fun _ _ _ h => h) (Or.inl ⟨by rfl, ?_⟩) ?_ ?_
                    rotate_left
                    · intro w'
                      go_simp
                      with_reducible rfl
                    rotate_left
                    · simp only [Act.put, nS]
                      rfl
                    refine pure_ (i := 1) (N := some 27) (v := ?_) (a' := ?_) #[true, true, false, false, false, false, false, false, false, false, false, false, false, false, false, false, false, false, false, false, false, false, false] rfl rfl (any_of HT_.out (by kernel_rfl)) (fun _ _ _ h => h) (Or.inl ⟨by rfl, ?_⟩) ?_ ?_
                    rotate_left
                    · intro w'
                      go_simp
                      with_reducible rfl
                    rotate_left
                    · simp only [Act.put, nS]
                      rfl
                    refine pure_ (i := 2) (N := some 28) (v := ?_) (a' := ?_) #[true, true, true, false, false, false, false, false, false, false, false, false, false, false, false, false, false, false, false, false, false, false, false] rfl rfl (any_of HT_.out (by kernel_rfl)) (fun _ _ _ h => h) (Or.inl ⟨by rfl, ?_⟩) ?_ ?_
                    rotate_left
                    · intro w'
                      go_simp
                      with_reducible rfl
                    rotate_left
                    · simp only [Act.put, nS]
                      rfl
                    refine pure_ (i := 3) (N := some 29) (v := ?_) (a' := ?_) #[true, true, true, true, false, false, false, false, false, false, false, false, false, false, false, false, false, false, false, false, false, false, false] rfl rfl (any_of HT_.out (by kernel_rfl)) (fun _ _ _ h => h) (Or.inl ⟨by rfl, ?_⟩) ?_ ?_
                    rotate_left
                    · intro w'
                      go_simp
                      with_reducible rfl
                    rotate_left
                    · simp only [Act.put, nS]
                      rfl
                    refine pure_ (i := 4) (N := some 30) (v := ?_) (a' := ?_) #[true, true, true, true, true, false, false, false, false, false, false, false, false, false, false, false, false, false, false, false, false, false, false] rfl rfl (any_of HT_.out (by kernel_rfl)) (fun _ _ _ h => h) (Or.inl ⟨by rfl, ?_⟩) ?_ ?_
                    rotate_left
                    · intro w'
                      go_simp
                      with_reducible rfl
                    rotate_left
                    · simp only [Act.put, nS]
                      rfl
                    refine pure_ (i := 8) (N := some 34) (v := ?_) (a' := ?_) #[true, true, true, true, true, false, false, false, true, false, false, false, false, false, false, false, false, false, false, false, false, false, false] rfl rfl (any_of HT_.out (by kernel_rfl)) (fun _ _ _ h => h) (Or.inl ⟨by rfl, ?_⟩) ?_ ?_
                    rotate_left
                    · intro w'
                      go_simp
                      with_reducible rfl
                    rotate_left
                    · simp only [Act.put, nS]
                      rfl
                    refine pure_ (i := 9) (N := some 35) (v := ?_) (a' := ?_) #[true, true, true, true, true, false, false, false, true, true, false, false, false, false, false, false, false, false, false, false, false, false, false] rfl rfl (any_of HT_.out (by kernel_rfl)) (fun _ _ _ h => h) (Or.inl ⟨by rfl, ?_⟩) ?_ ?_
                    rotate_left
                    · intro w'
                      go_simp
                      with_reducible rfl
                    rotate_left
                    · simp only [Act.put, nS]
                      rfl
                    refine pure_ (i := 10) (N := some 36) (v := ?_) (a' := ?_) #[true, true, true, true, true, false, false, false, true, true, true, false, false, false, false, false, false, false, false, false, false, false, false] rfl rfl (any_of HT_.out (by kernel_rfl)) (fun _ _ _ h => h) (Or.inl ⟨by rfl, ?_⟩) ?_ ?_
                    rotate_left
                    · intro w'
                      go_simp
                      with_reducible rfl
                    rotate_left
                    · simp only [Act.put, nS]
                      rfl
                    refine pure_ (i := 11) (N := some 37) (v := ?_) (a' := ?_) #[true, true, true, true, true, false, false, false, true, true, true, true, false, false, false, false, false, false, false, false, false, false, false] rfl rfl (any_of HT_.out (by kernel_rfl)) (fun _ _ _ h => h) (Or.inl ⟨by rfl, ?_⟩) ?_ ?_
                    rotate_left
                    · intro w'
                      go_simp
                      with_reducible rfl
                    rotate_left
                    · simp only [Act.put, nS]
                      rfl
                    refine pure_ (i := 15) (N := some 41) (v := ?_) (a' := ?_) #[true, true, true, true, true, false, false, false, true, true, true, true, false, false, false, true, false, false, false, false, false, false, false] rfl rfl (any_of HT_.out (by kernel_rfl)) (fun _ _ _ h => h) (Or.inl ⟨by rfl, ?_⟩) ?_ ?_
                    rotate_left
                    · intro w'
                      go_simp
                      with_reducible rfl
                    rotate_left
                    · simp only [Act.put, nS]
                      rfl
                    refine pure_ (i := 16) (N := some 42) (v := ?_) (a' := ?_) #[true, true, true, true, true, false, false, false, true, true, true, true, false, false, false, true, true, false, false, false, false, false, false] rfl rfl (any_of HT_.out (by kernel_rfl)) (fun _ _ _ h => h) (Or.inl ⟨by rfl, ?_⟩) ?_ ?_
                    rotate_left
                    · intro w'
                      go_simp
                      with_reducible rfl
                    rotate_left
                    · simp only [Act.put, nS]
                      rfl
                    refine pure_ (i := 17) (N := some 43) (v := ?_) (a' := ?_) #[true, true, true, true, true, false, false, false, true, true, true, true, false, false, false, true, true, true, false, false, false, false, false] rfl rfl (any_of HT_.out (by kernel_rfl)) (fun _ _ _ h => h) (Or.inl ⟨by rfl, ?_⟩) ?_ ?_
                    rotate_left
                    · intro w'
                      go_simp
                      with_reducible rfl
                    rotate_left
                    · simp only [Act.put, nS]
                      rfl
                    refine pure_ (i := 18) (N := some 44) (v := ?_) (a' := ?_) #[true, true, true, true, true, false, false, false, true, true, true, true, false, false, false, true, true, true, true, false, false, false, false] rfl rfl (any_of HT_.out (by kernel_rfl)) (fun _ _ _ h => h) (Or.inl ⟨by rfl, ?_⟩) ?_ ?_
                    rotate_left
                    · intro w'
                      go_simp
                      with_reducible rfl
                    rotate_left
                    · simp only [Act.put, nS]
                      rfl
                    refine take_ (i := 5) (N := some 31) (v := ?_) (a' := ?_) #[true, true, true, true, true, true, false, false, true, true, true, true, false, false, false, true, true, true, true, false, false, false, false] rfl rfl (take_ofW HT_.out HW_.out (by kernel_rfl)) (fun _ _ _ h => h) (Or.inl ⟨by rfl, ?_⟩) hHeld ?_ ?_
                    rotate_left
                    · rintro w' ⟨s0, s1, s2, s3, s4, s5, s6, s7, s8⟩
                      go_simp
                      with_reducible rfl
                    rotate_left
                    · simp only [Act.put, nS]
                      rfl
                    refine take_ (i := 12) (N := some 38) (v := ?_) (a' := ?_) #[true, true, true, true, true, true, false, false, true, true, true, true, true, false, false, true, true, true, true, false, false, false, false] rfl rfl (take_ofW HT_.out HW_.out (by kernel_rfl)) (fun _ _ _ h => h) (Or.inl ⟨by rfl, ?_⟩) hHeld ?_ ?_
                    rotate_left
                    · rintro w' ⟨s0, s1, s2, s3, s4, s5, s6, s7, s8⟩
                      go_simp
                      with_reducible rfl
                    rotate_left
                    · simp only [Act.put, nS]
                      rfl
                    refine take_ (i := 19) (N := some 45) (v := ?_) (a' := ?_) #[true, true, true, true, true, true, false, false, true, true, true, true, true, false, false, true, true, true, true, true, false, false, false] rfl rfl (take_ofW HT_.out HW_.out (by kernel_rfl)) (fun _ _ _ h => h) (Or.inl ⟨by rfl, ?_⟩) hHeld ?_ ?_
                    rotate_left
                    · rintro w' ⟨s0, s1, s2, s3, s4, s5, s6, s7, s8⟩
                      go_simp
                      with_reducible rfl
                    rotate_left
                    · simp only [Act.put, nS]
                      rfl
                    refine one_ (i := 6) (N := some 32) #[true, true, true, true, true, true, true, false, true, true, true, true, true, false, false, true, true, true, true, true, false, false, false] rfl rfl (one_of HT_.out (by kernel_rfl)) (by decide) (fun K hK => ?_)
                    refine goes_ Try.func53 (by kernel_rfl) rfl #[.int .i64 ((rd_T52 l2 x8_1).f0)] (by rfl) rfl rfl zar1 ?_
                    with_reducible refine (abugidaref02_Int.calls k1 ((rd_T52 l2 x8_1).f0) t319 _ A17.out).mono ?_
                    rintro e w24 ⟨rfl, hb⟩
                    refine ⟨_, rfl, ?_⟩
                    have n0_ := Aside0.mk (below_step zar3 hb)
                    clear HB
                    have HB := n0_
                    clear n0_
                    (try clear hb)
                    (try clear hb2)
                    (try clear hk)
                    (try clear hi)
                    refine hK.out _ _ ⟨((HB.out.cell (World.block_lt_of_cell? w _ hw318_0)).trans hw318_0), ((HB.out.cell (World.block_lt_of_cell? w _ hw318_1)).trans hw318_1), ((HB.out.cell (World.block_lt_of_cell? w _ hw318_2)).trans hw318_2), ((HB.out.cell (World.block_lt_of_cell? w _ hw320_0)).trans hw320_0), ((HB.out.cell (World.block_lt_of_cell? w _ hw320_1)).trans hw320_1), ((HB.out.cell (World.block_lt_of_cell? w _ hw320_2)).trans hw320_2), ((HB.out.cell (World.block_lt_of_cell? w _ hw322_0)).trans hw322_0), ((HB.out.cell (World.block_lt_of_cell? w _ hw322_1)).trans hw322_1), ((HB.out.cell (World.block_lt_of_cell? w _ hw322_2)).trans hw322_2)⟩ (fun hHeld => norm_ zar10 ?_)
                    clear hK K
                    refine pure_ (i := 7) (N := some 33) (v := ?_) (a' := ?_) #[true, true, true, true, true, true, true, true, true, true, true, true, true, false, false, true, true, true, true, true, false, false, false] rfl rfl (any_of HT_.out (by kernel_rfl)) (fun _ _ _ h => h) (Or.inl ⟨by rfl, ?_⟩) ?_ ?_
                    rotate_left
                    · intro w'
                      go_simp
                      with_reducible rfl
                    rotate_left
                    · simp only [Act.put, nS]
                      rfl
                    refine one_ (i := 13) (N := some 39) #[true, true, true, true, true, true, true, true, true, true, true, true, true, true, false, true, true, true, true, true, false, false, false] rfl rfl (one_of HT_.out (by kernel_rfl)) (by decide) (fun K hK => ?_)
                    refine goes_ Try.func53 (by kernel_rfl) rfl #[.int .i64 ((rd_T52 l2 x8_1).f1)] (by rfl) rfl rfl zar1 ?_
                    with_reducible refine (abugidaref02_Int.calls k1 ((rd_T52 l2 x8_1).f1) t321 _ A19.out).mono ?_
                    rintro e w25 ⟨rfl, hb⟩
                    refine ⟨_, rfl, ?_⟩
                    have n0_ := Aside0.mk (below_step zar3 hb)
                    clear HB
                    have HB := n0_
                    clear n0_
                    (try clear hb)
                    (try clear hb2)
                    (try clear hk)
                    (try clear hi)
                    refine hK.out _ _ ⟨((HB.out.cell (World.block_lt_of_cell? w _ hw318_0)).trans hw318_0), ((HB.out.cell (World.block_lt_of_cell? w _ hw318_1)).trans hw318_1), ((HB.out.cell (World.block_lt_of_cell? w _ hw318_2)).trans hw318_2), ((HB.out.cell (World.block_lt_of_cell? w _ hw320_0)).trans hw320_0), ((HB.out.cell (World.block_lt_of_cell? w _ hw320_1)).trans hw320_1), ((HB.out.cell (World.block_lt_of_cell? w _ hw320_2)).trans hw320_2), ((HB.out.cell (World.block_lt_of_cell? w _ hw322_0)).trans hw322_0), ((HB.out.cell (World.block_lt_of_cell? w _ hw322_1)).trans hw322_1), ((HB.out.cell (World.block_lt_of_cell? w _ hw322_2)).trans hw322_2)⟩ (fun hHeld => norm_ zar10 ?_)
                    clear hK K
                    refine pure_ (i := 14) (N := some 40) (v := ?_) (a' := ?_) #[true, true, true, true, true, true, true, true, true, true, true, true, true, true, true, true, true, true, true, true, false, false, false] rfl rfl (any_of HT_.out (by kernel_rfl)) (fun _ _ _ h => h) (Or.inl ⟨by rfl, ?_⟩) ?_ ?_
                    rotate_left
                    · intro w'
                      go_simp
                      with_reducible rfl
                    rotate_left
                    · simp only [Act.put, nS]
                      rfl
                    refine one_ (i := 20) (N := some 46) #[true, true, true, true, true, true, true, true, true, true, true, true, true, true, true, true, true, true, true, true, true, false, false] rfl rfl (one_of HT_.out (by kernel_rfl)) (by decide) (fun K hK => ?_)
                    refine goes_ Try.func53 (by kernel_rfl) rfl #[.int .i64 ((rd_T52 l2 x8_1).f2)] (by rfl) rfl rfl zar1 ?_
                    with_reducible refine (abugidaref02_Int.calls k1 ((rd_T52 l2 x8_1).f2) t323 _ A21.out).mono ?_
                    rintro e w26 ⟨rfl, hb⟩
                    refine ⟨_, rfl, ?_⟩
                    have n0_ := Aside0.mk (below_step zar3 hb)
                    clear HB
                    have HB := n0_
                    clear n0_
                    (try clear hb)
                    (try clear hb2)
                    (try clear hk)
                    (try clear hi)
                    refine hK.out _ _ ⟨((HB.out.cell (World.block_lt_of_cell? w _ hw318_0)).trans hw318_0), ((HB.out.cell (World.block_lt_of_cell? w _ hw318_1)).trans hw318_1), ((HB.out.cell (World.block_lt_of_cell? w _ hw318_2)).trans hw318_2), ((HB.out.cell (World.block_lt_of_cell? w _ hw320_0)).trans hw320_0), ((HB.out.cell (World.block_lt_of_cell? w _ hw320_1)).trans hw320_1), ((HB.out.cell (World.block_lt_of_cell? w _ hw320_2)).trans hw320_2), ((HB.out.cell (World.block_lt_of_cell? w _ hw322_0)).trans hw322_0), ((HB.out.cell (World.block_lt_of_cell? w _ hw322_1)).trans hw322_1), ((HB.out.cell (World.block_lt_of_cell? w _ hw322_2)).trans hw322_2)⟩ (fun hHeld => norm_ zar10 ?_)
                    clear hK K
                    refine pure_ (i := 21) (N := some 47) (v := ?_) (a' := ?_) #[true, true, true, true, true, true, true, true, true, true, true, true, true, true, true, true, true, true, true, true, true, true, false] rfl rfl (any_of HT_.out (by kernel_rfl)) (fun _ _ _ h => h) (Or.inl ⟨by rfl, ?_⟩) ?_ ?_
                    rotate_left
                    · intro w'
                      go_simp
                      with_reducible rfl
                    rotate_left
                    · simp only [Act.put, nS]
                      rfl
                    refine pure_ (i := 22) (N := some 7) (v := ?_) (a' := ?_) #[true, true, true, true, true, true, true, true, true, true, true, true, true, true, true, true, true, true, true, true, true, true, true] rfl rfl (any_of HT_.out (by kernel_rfl)) (fun _ _ _ h => h) (Or.inl ⟨by rfl, ?_⟩) ?_ ?_
                    rotate_left
                    · intro w'
                      go_simp
                      with_reducible rfl
                    rotate_left
                    · simp only [Act.put, nS]
                      rfl
                    refine done_ (done_of HT_.out (by kernel_rfl)) ?_
                    try go_wp2
                    go_roundg k1
                    case measure => have := HK1.out; omega
                    case rel => exact ⟨(((x7_1 ++ t319) ++ t321) ++ t323), (wrap64 (x8_1 + 1)), zar8, zar8, H', ⟨by have := HK1.out; omega⟩, ⟨zar3⟩⟩
                  · rw [if_neg c22] at H
                    exact absurd H (by simp)
                · rw [if_neg c20] at H
                  exact absurd H (by simp)
              · rw [if_neg c18] at H
                exact absurd H (by simp)
            · rw [if_neg c16] at H
              exact absurd H (by simp)
          · rw [if_neg c15] at H
            have c15b0 : decide (x8_1 < (l2.length : Int)) = false := decide_eq_false c15
            clear c15
            obtain rfl := Option.some.inj H
            go_wp2
            go_ret
            exact ⟨zar6, zar3⟩
     · rw [if_neg c10] at H
       exact absurd H (by simp)
   · rw [if_neg c8] at H
     exact absurd H (by simp)
 · rw [if_neg c6] at H
   exact absurd H (by simp)

end Go.Proofs.Ythokkeljfdfppaa.Pb
