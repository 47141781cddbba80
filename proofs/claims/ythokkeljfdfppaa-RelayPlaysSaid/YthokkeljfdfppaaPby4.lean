import Derived.Test.YthokkeljfdfppaaPby2
namespace Go.Proofs.Ythokkeljfdfppaa.Pb
open Go.RowKit Go.Proofs.Ythokkeljfdfppaa.Gw Go.Proofs.YthokkeljfdfppaaW.PrintWords Go.Proofs.YthokkeljfdfppaaW.PrintLast Go.Proofs.YthokkeljfdfppaaW.PrintMore
open Go.Proofs.Ythokkeljfdfppaa.Gw
attribute [local go_sem] max2_int min2_int max_two min_two max_three min_three max_four min_four   -- for this text's walks alone
set_option linter.unusedVariables false
set_option linter.unusedSimpArgs false

theorem zat10 {p : Prop} (h : p := by first | rfl | (simp; done) | (simp [*]; done)) : p := h
theorem zat9 {p : Prop} (h : p := by repeat (first | exact (Kd.R_reads' HO_11.out).2.2 | (with_reducible refine Kd.C_alloc ?_ _) | (with_reducible refine Kd.C_drewN ?_ _) | (with_reducible refine Kd.C_drew ?_))) : p := h
theorem zat8 {p : Prop} (h : p := by first | rfl | (simp [errW_none, errW_some] <;> rfl) | (simp [*, errW_none, errW_some] <;> rfl)) : p := h
theorem zat7 {p : Prop} (h : p := by (with_reducible repeat (first | refine blk_drewN ?_ _ | refine blk_drew ?_ | refine blk_alloc ?_ _)); refine blk_put (cs := #[.int .i64 t396, .int .i64 t401, .int .i64 0]) ?_ 2 _ rfl; (with_reducible repeat (first | refine blk_drewN ?_ _ | refine blk_drew ?_ | refine blk_alloc ?_ _)); exact BK400.out) : p := h
theorem zat6 {p : Prop} (h : p := by first | exact Kd.R_nil _ _ _ _ _ | exact Kd.N_nil _ _ _ _ _ | exact Kd.V_nil _ _ _ _ _ | exact Kd.Q_nil _ _ _ _ _ | exact Kd.S_nil _ _ _ _ _) : p := h
theorem zat5 {p : Prop} (h : p := by repeat (first | (with_reducible first | exact HI379.out | apply IsS111.alloc | apply IsS111.drewN | apply IsS111.drew | apply IsS111.set_0 | apply IsS111.set_1 | apply IsS111.set_2 | refine IsS111.far ?_ NB379_400.out _) | exact HI379.out)) : p := h
theorem zat4 {p : Prop} (h : p := by (with_reducible repeat (first | apply Kd.R_alloc | apply Kd.R_drewN | apply Kd.R_drew)); exact HO_11.out) : p := h
theorem zat3 {p : Prop} (h : p := by repeat (first | (with_reducible first | exact HB.out | apply below_alloc | apply pw_below_drewN | apply below_drew1 | refine below_set ?_ (IsS111.ge HI379.out) | refine below_set ?_ GE400.out) | exact HB.out)) : p := h
theorem zat2 {p : Prop} (h : p := by (try simp only [List.map_toArray, List.map_cons, List.map_nil]); first | done | rfl | (simp only [List.length_drop, List.length_take]; rfl)) : p := h
theorem zat1 {p : Prop} (h : p := by repeat (first | (with_reducible first | exact HI379.out | apply IsS111.alloc | apply IsS111.drewN | apply IsS111.drew | apply IsS111.set_0 | apply IsS111.set_1 | apply IsS111.set_2) | exact HI379.out)) : p := h
theorem zat0 {p : Prop} (h : p := by repeat (first | (with_reducible first | exact HB.out | apply below_alloc | apply pw_below_drewN | apply below_drew1 | refine below_set ?_ (IsS111.ge HI379.out)) | exact HB.out)) : p := h
mutual
def abugidaref35_Asked.l0 : Nat → ByteArray → ByteArray → ByteArray → Int → Int → List (S52) → Int → ByteArray → Int → Bool → Option (ByteArray × Int × (List (S52)) × Bool)
 | 0, _, _, _, _, _, _, _, _, _, _ => none
 | k + 1, x0, x7, x8, x9, x10, x11, x12, x380000, x380001, x380002 => if x12 < x10 then (abugidaref35_Asked.j1 k x0 x7 x8 x9 x10 x11 x12 (!x380002) x380000 x380001 x380002) else (abugidaref35_Asked.j1 k x0 x7 x8 x9 x10 x11 x12 false x380000 x380001 x380002)
def abugidaref35_Asked.j1 : Nat → ByteArray → ByteArray → ByteArray → Int → Int → List (S52) → Int → Bool → ByteArray → Int → Bool → Option (ByteArray × Int × (List (S52)) × Bool)
 | 0, _, _, _, _, _, _, _, _, _, _, _ => none
 | k + 1, x0, x7, x8, x9, x10, x11, x12, x33, x380000, x380001, x380002 => if x33 = true then ((abugidaref02_Reader_Int.f k x380000 x380001 x380002).bind fun bt396 => ((abugidaref02_Reader_Int.f k bt396.2.1 bt396.2.2.1 bt396.2.2.2).bind fun bt401 => ((abugidaref02_Reader_Int.f k bt401.2.1 bt401.2.2.1 bt401.2.2.2).bind fun bt405 => (if x11.length < 5864062014805 then (abugidaref35_Asked.l0 k x0 x7 x8 x9 x10 (x11 ++ [(⟨bt396.1, bt401.1, bt405.1⟩ : S52)]) (wrap64 (x12 + 1)) bt405.2.1 bt405.2.2.1 bt405.2.2.2) else (none))))) else (if x380002 = true then (some ((⟨#[]⟩ : ByteArray), 0, ([] : List (S52)), false)) else (if x7.toList = ([97, 115, 107] : List UInt8) then ((abugidaref35_Ask.f k x8 x9 x11).bind fun t412 => (if t412.toList = x0.toList then (some (x8, x9, x11, true)) else (some ((⟨#[]⟩ : ByteArray), 0, ([] : List (S52)), false)))) else (some ((⟨#[]⟩ : ByteArray), 0, ([] : List (S52)), false))))
end
def abugidaref35_Asked.f (k : Nat) (a0 : ByteArray) : Option (ByteArray × Int × (List (S52)) × Bool) := (abugidaref02_New.f a0).bind fun bt376 => ((abugidaref02_Reader_Text.f k bt376.1 bt376.2.1 bt376.2.2).bind fun bt380 => ((abugidaref02_Reader_Text.f k bt380.2.1 bt380.2.2.1 bt380.2.2.2).bind fun bt384 => ((abugidaref02_Reader_Int.f k bt384.2.1 bt384.2.2.1 bt384.2.2.2).bind fun bt388 => ((abugidaref02_Reader_Int.f k bt388.2.1 bt388.2.2.1 bt388.2.2.2).bind fun bt392 => (abugidaref35_Asked.l0 k a0 bt380.1 bt384.1 bt388.1 bt392.1 ([] : List (S52)) 0 bt392.2.1 bt392.2.2.1 bt392.2.2.2)))))
set_option maxHeartbeats 8000000 in
set_option maxRecDepth 100000 in
theorem abugidaref35_Asked.calls (k : Nat) (a0 : ByteArray) (r1 : ByteArray) (r2 : Int) (r3 : List (S52)) (r4 : Bool) (w : World) (h : abugidaref35_Asked.f k a0 = some (r1, r2, r3, r4)) :
 Calls Try.prog 25 #[.string a0] w fun e w' => ∃ v2_ : Value, e = .returned (.tuple #[.string r1, .int .i64 r2, v2_, .bool r4]) ∧ Kd.R k52 52 w' w.heap.size (fun _ => True) v2_ r3 ∧ Below w.heap.size w w' := by
 have hu52 := Try.underlying52
 have HB := Aside0.mk (Below.refl w.heap.size w)
 have H : ((abugidaref02_New.f a0).bind fun bt376 => ((abugidaref02_Reader_Text.f k bt376.1 bt376.2.1 bt376.2.2).bind fun bt380 => ((abugidaref02_Reader_Text.f k bt380.2.1 bt380.2.2.1 bt380.2.2.2).bind fun bt384 => ((abugidaref02_Reader_Int.f k bt384.2.1 bt384.2.2.1 bt384.2.2.2).bind fun bt388 => ((abugidaref02_Reader_Int.f k bt388.2.1 bt388.2.2.1 bt388.2.2.2).bind fun bt392 => (abugidaref35_Asked.l0 k a0 bt380.1 bt384.1 bt388.1 bt392.1 ([] : List (S52)) 0 bt392.2.1 bt392.2.2.1 bt392.2.2.2)))))) = some (r1, r2, r3, r4) := h
 clear h
 replace H := Option.bind_eq_some_iff.mp H
 obtain ⟨⟨t376, t377, t378⟩, A20, H⟩ := H
 try dsimp only at H
 have A2 := Aside0.mk A20
 clear A20
 replace H := Option.bind_eq_some_iff.mp H
 obtain ⟨⟨t380, t381, t382, t383⟩, A30, H⟩ := H
 try dsimp only at H
 have A3 := Aside0.mk A30
 clear A30
 replace H := Option.bind_eq_some_iff.mp H
 obtain ⟨⟨t384, t385, t386, t387⟩, A40, H⟩ := H
 try dsimp only at H
 have A4 := Aside0.mk A40
 clear A40
 replace H := Option.bind_eq_some_iff.mp H
 obtain ⟨⟨t388, t389, t390, t391⟩, A50, H⟩ := H
 try dsimp only at H
 have A5 := Aside0.mk A50
 clear A50
 replace H := Option.bind_eq_some_iff.mp H
 obtain ⟨⟨t392, t393, t394, t395⟩, A60, H⟩ := H
 try dsimp only at H
 have A6 := Aside0.mk A60
 clear A60
 have H' := Aside0.mk H
 clear H
 go_enter Try.func25, Try.ntmps25
 go_wp2_with (first | ((with_reducible refine gate_callee (f := 65) rfl ?_); refine goesL_ (some 15) rfl rfl Try.func65 (by kernel_rfl) rfl #[.string a0] rfl zat2 ?_; (with_reducible refine (abugidaref02_New.calls a0 t376 t377 t378 w _ ?side1 A2.out).mono ?_); (case side1 => repeat (with_reducible first | exact HB.out | apply below_alloc | apply pw_below_drewN | apply below_drew1)); rintro e w7 ⟨g379, rfl, hi, hb, hb2⟩; refine ⟨_, rfl, ?_⟩; have n0_ := Aside0.mk (hb); have n1_ := Aside0.mk (hi); clear HB; have HB := n0_; have HI379 := n1_; clear n0_ n1_; (try clear hb); (try clear hb2); (try clear hk); (try clear hi)) | ((with_reducible refine gate_callee (f := 66) rfl ?_); refine goesL_ (some 17) rfl rfl Try.func66 (by kernel_rfl) rfl #[.pointer (some ⟨g379, 0, none⟩)] rfl zat2 ?_; (with_reducible refine (abugidaref02_Reader_Text.calls k g379 t376 t377 t378 t380 t381 t382 t383 w _ ?side1 ?side2 A3.out).mono ?_); (case side1 => exact zat1); (case side2 => exact zat0); rintro e w8 ⟨rfl, hi, hb, hk⟩; refine ⟨_, rfl, ?_⟩; have n0_ := Aside0.mk (hb); have n1_ := Aside0.mk (hi); clear HB; clear HI379; have HB := n0_; have HI379 := n1_; clear n0_ n1_; (try clear hb); (try clear hb2); (try clear hk); (try clear hi)) | ((with_reducible refine gate_callee (f := 66) rfl ?_); refine goesL_ (some 19) rfl rfl Try.func66 (by kernel_rfl) rfl #[.pointer (some ⟨g379, 0, none⟩)] rfl zat2 ?_; (with_reducible refine (abugidaref02_Reader_Text.calls k g379 t381 t382 t383 t384 t385 t386 t387 w _ ?side1 ?side2 A4.out).mono ?_); (case side1 => exact zat1); (case side2 => exact zat0); rintro e w9 ⟨rfl, hi, hb, hk⟩; refine ⟨_, rfl, ?_⟩; have n0_ := Aside0.mk (hb); have n1_ := Aside0.mk (hi); clear HB; clear HI379; have HB := n0_; have HI379 := n1_; clear n0_ n1_; (try clear hb); (try clear hb2); (try clear hk); (try clear hi)) | ((with_reducible refine gate_callee (f := 67) rfl ?_); refine goesL_ (some 21) rfl rfl Try.func67 (by kernel_rfl) rfl #[.pointer (some ⟨g379, 0, none⟩)] rfl zat2 ?_; (with_reducible refine (abugidaref02_Reader_Int.calls k g379 t385 t386 t387 t388 t389 t390 t391 w _ ?side1 ?side2 A5.out).mono ?_); (case side1 => exact zat1); (case side2 => exact zat0); rintro e w10 ⟨rfl, hi, hb, hk⟩; refine ⟨_, rfl, ?_⟩; have n0_ := Aside0.mk (hb); have n1_ := Aside0.mk (hi); clear HB; clear HI379; have HB := n0_; have HI379 := n1_; clear n0_ n1_; (try clear hb); (try clear hb2); (try clear hk); (try clear hi)) | ((with_reducible refine gate_callee (f := 67) rfl ?_); refine goesL_ (some 23) rfl rfl Try.func67 (by kernel_rfl) rfl #[.pointer (some ⟨g379, 0, none⟩)] rfl zat2 ?_; (with_reducible refine (abugidaref02_Reader_Int.calls k g379 t389 t390 t391 t392 t393 t394 t395 w _ ?side1 ?side2 A6.out).mono ?_); (case side1 => exact zat1); (case side2 => exact zat0); rintro e w11 ⟨rfl, hi, hb, hk⟩; refine ⟨_, rfl, ?_⟩; have n0_ := Aside0.mk (hb); have n1_ := Aside0.mk (hi); clear HB; clear HI379; have HB := n0_; have HI379 := n1_; clear n0_ n1_; (try clear hb); (try clear hb2); (try clear hk); (try clear hi)))
 go_loopg [11, 12] k (fun kq v11 v12 w' => ∃ (x11_1 : List (S52)) (x12_1 : Int) (x380000_1 : ByteArray) (x380001_1 : Int) (x380002_1 : Bool), v12 = .int .i64 x12_1 ∧ Aside0 (abugidaref35_Asked.l0 kq a0 t380 t384 t388 t392 x11_1 x12_1 x380000_1 x380001_1 x380002_1 = some (r1, r2, r3, r4)) ∧ Aside0 (kq ≤ k) ∧ Aside0 (Kd.R k52 52 w' w.heap.size (fun _ => True) v11 x11_1) ∧ Aside0 (IsS111 w w' g379 x380000_1 x380001_1 x380002_1) ∧ Aside0 (Below w.heap.size w w'))
 case atStart => exact ⟨(([] : List (S52))), (0), (t393), (t394), (t395), zat10, H', ⟨Nat.le_refl _⟩, ⟨zat6⟩, ⟨zat1⟩, ⟨zat0⟩⟩
 case round =>
  clear H'
  try clear c2
  try clear p2
  try clear c6
  obtain ⟨x11_1, x12_1, x380000_1, x380001_1, x380002_1, rfl, HA, HK1, HO_11, HI379, HB⟩ := hrel
  cases gk with
  | zero => exact absurd HA.out (by simp [abugidaref35_Asked.l0])
  | succ k1 =>
    have H := HA.out
    clear HA
    simp only [abugidaref35_Asked.l0] at H
    have HC12 := Aside0.mk H
    clear H
    go_upto_region 8 with (fail)
    go_cut [33] (fun v33 wc => ∃ (kq : Nat) (x33_11 : Bool), v33 = .bool x33_11 ∧ Aside0 (abugidaref35_Asked.j1 kq a0 t380 t384 t388 t392 x11_1 x12_1 x33_11 x380000_1 x380001_1 x380002_1 = some (r1, r2, r3, r4)) ∧ Aside0 (kq ≤ k1) ∧ Aside0 (Kd.R k52 52 wc w.heap.size (fun _ => True) u11 x11_1) ∧ Aside0 (IsS111 w wc g379 x380000_1 x380001_1 x380002_1) ∧ Aside0 (Below w.heap.size w wc))
    case first =>
     have H := HC12.out
     clear HC12
     by_cases c13 : x12_1 < t392
     · rw [if_pos c13] at H
       have c13b0 : decide (x12_1 < t392) = true := decide_eq_true c13
       clear c13
       (first | rw [c13b0] | (simp only [i64_w, i32_w]; rw [c13b0]) | skip)
       have H' := Aside0.mk H
       clear H
       obtain ⟨HGz14, hgz14⟩ := HI379.out
       have hcz14_0 := cellS111_0 HGz14
       have hcz14_1 := cellS111_1 HGz14
       have hcz14_2 := cellS111_2 HGz14
       have hfz14_0 := blk_frozen HGz14 0
       have hfz14_1 := blk_frozen HGz14 1
       have hfz14_2 := blk_frozen HGz14 2
       clear HGz14 hgz14
       go_wp2
       go_meet
       case rel => exact ⟨_, (!x380002_1), zat10, H', ⟨by have := HK1.out; first | omega | exact Nat.le_refl _⟩, ⟨zat4⟩, ⟨zat1⟩, ⟨zat0⟩⟩
     · rw [if_neg c13] at H
       have c13b0 : decide (x12_1 < t392) = false := decide_eq_false c13
       clear c13
       (first | rw [c13b0] | (simp only [i64_w, i32_w]; rw [c13b0]) | skip)
       have H' := Aside0.mk H
       clear H
       go_wp2
       go_meet
       case rel => exact ⟨_, (false), zat10, H', ⟨by have := HK1.out; first | omega | exact Nat.le_refl _⟩, ⟨zat4⟩, ⟨zat1⟩, ⟨zat0⟩⟩
    case rest =>
     clear HC12
     try clear c1
     try clear c2
     try clear p2
     try clear c6
     try clear c13
     try clear c13b0
     try clear hcz14_0
     try clear hcz14_1
     try clear hcz14_2
     try clear hfz14_0
     try clear hfz14_1
     try clear hfz14_2
     try clear p2
     obtain ⟨kq, x33_11, rfl, HA, HJ11, HO_11, HI379, HB⟩ := hcut
     cases kq with
     | zero => exact absurd HA.out (by simp [abugidaref35_Asked.j1])
     | succ kj11 =>
       have H := HA.out
       clear HA
       simp only [abugidaref35_Asked.j1] at H
       by_cases c15 : x33_11 = true
       · subst c15
         rw [if_pos rfl] at H
         replace H := Option.bind_eq_some_iff.mp H
         obtain ⟨⟨t396, t397, t398, t399⟩, A160, H⟩ := H
         try dsimp only at H
         have A16 := Aside0.mk A160
         clear A160
         replace H := Option.bind_eq_some_iff.mp H
         obtain ⟨⟨t401, t402, t403, t404⟩, A170, H⟩ := H
         try dsimp only at H
         have A17 := Aside0.mk A170
         clear A170
         replace H := Option.bind_eq_some_iff.mp H
         obtain ⟨⟨t405, t406, t407, t408⟩, A180, H⟩ := H
         try dsimp only at H
         have A18 := Aside0.mk A180
         clear A180
         by_cases c19 : x11_1.length < 5864062014805
         · rw [if_pos c19] at H
           have LMc19 := Aside0.mk c19
           clear c19
           obtain ⟨y409, hy409⟩ : ∃ y_ : List (S52), y_ = (x11_1 ++ [(⟨t396, t401, t405⟩ : S52)]) := ⟨_, rfl⟩
           replace H : (abugidaref35_Asked.l0 kj11 a0 t380 t384 t388 t392 y409 (wrap64 (x12_1 + 1)) t406 t407 t408) = some (r1, r2, r3, r4) := by first | (rw [hy409]; with_reducible exact H) | (have H2_ := (Option.bind_some _ _).symm.trans H; rw [hy409]; with_reducible exact H2_) | (have H2_ := (Option.bind_some _ _).symm.trans H; with_reducible exact H2_) | with_reducible exact H | (rw [hy409]; exact H) | exact H
           have Ny409 := Aside0.mk hy409
           clear hy409
           have H' := Aside0.mk H
           clear H
           go_wp2_with (first | ((with_reducible refine gate_callee (f := 67) rfl ?_); refine goesL_ (some 37) rfl rfl Try.func67 (by kernel_rfl) rfl #[.pointer (some ⟨g379, 0, none⟩)] rfl zat2 ?_; (with_reducible refine (abugidaref02_Reader_Int.calls kj11 g379 x380000_1 x380001_1 x380002_1 t396 t397 t398 t399 w _ ?side1 ?side2 A16.out).mono ?_); (case side1 => exact zat1); (case side2 => exact zat0); rintro e w20 ⟨rfl, hi, hb, hk⟩; refine ⟨_, rfl, ?_⟩; have n0_ := Aside0.mk (Kd.R_mono (Kd.R_keep (IsS111.apart (show IsS111 w _ g379 x380000_1 x380001_1 x380002_1 from by repeat (first | (with_reducible first | exact HI379.out | apply IsS111.alloc | apply IsS111.drewN | apply IsS111.drew | apply IsS111.set_0 | apply IsS111.set_1 | apply IsS111.set_2) | exact HI379.out)) zat4 (by decide)) hk (fun _ h => h.2)) (fun _ h => h.1)); have n1_ := Aside0.mk (hb); have n2_ := Aside0.mk (hi); clear HO_11; clear HB; clear HI379; have HO_11 := n0_; have HB := n1_; have HI379 := n2_; clear n0_ n1_ n2_; (try clear hb); (try clear hb2); (try clear hk); (try clear hi)) | ((with_reducible refine gate_dst (N := 13) rfl ?_); refine box_event ?hg (N := 13) ?hd (cs := #[.int .i64 0, .int .i64 0, .int .i64 0]) (t := 52) ?hr ?_; (case hd => rfl); (case hg => rfl); (case hr => first | (go_simp; done) | (go_simp; rfl)); intro gb400 hg w21 hbox hb; have n0_ := Aside0.mk (Kd.R_below (Kd.R_elderB zat4 gb400 (Nat.le_of_eq hg.symm)) hb); have n1_ := Aside0.mk (IsS111.below zat1 hb); have n2_ := Aside0.mk (below_step zat0 hb); have n3_ := Aside0.mk (hbox); have n4_ := Aside0.mk ((by rw [hg]; exact (below_size zat0) : w.heap.size ≤ gb400)); have n5_ := Aside0.mk ((by rw [hg]; exact (below_size zat0) : w.heap.size ≤ gb400)); have n6_ := Aside0.mk ((by rw [hg]; exact Nat.ne_of_lt (IsS111.lt (show IsS111 w _ g379 t397 t398 t399 from by repeat (first | (with_reducible first | exact HI379.out | apply IsS111.alloc | apply IsS111.drewN | apply IsS111.drew | apply IsS111.set_0 | apply IsS111.set_1 | apply IsS111.set_2) | exact HI379.out))) : g379 ≠ gb400)); have n7_ := Aside0.mk ((by rw [hg]; exact Nat.ne_of_gt (IsS111.lt (show IsS111 w _ g379 t397 t398 t399 from by repeat (first | (with_reducible first | exact HI379.out | apply IsS111.alloc | apply IsS111.drewN | apply IsS111.drew | apply IsS111.set_0 | apply IsS111.set_1 | apply IsS111.set_2) | exact HI379.out))) : gb400 ≠ g379)); clear HO_11; clear HI379; clear HB; have HO_11 := n0_; have HI379 := n1_; have HB := n2_; have BK400 := n3_; have GW400 := n4_; have GE400 := n5_; have NB379_400 := n6_; have NB400_379 := n7_; clear n0_ n1_ n2_ n3_ n4_ n5_ n6_ n7_; clear hb hbox hg; have hnb22 := NB400_379.out; have hnc22 := NB379_400.out; have hcz23_0 : w21.cell? ⟨gb400, 0, none⟩ = some (.int .i64 0) := (blk_cell BK400.out 0).trans rfl; have hcz23_1 : w21.cell? ⟨gb400, 1, none⟩ = some (.int .i64 0) := (blk_cell BK400.out 1).trans rfl; have hcz23_2 : w21.cell? ⟨gb400, 2, none⟩ = some (.int .i64 0) := (blk_cell BK400.out 2).trans rfl; have hfz23_0 := blk_frozen BK400.out 0; have hfz23_1 := blk_frozen BK400.out 1; have hfz23_2 := blk_frozen BK400.out 2) | ((with_reducible refine gate_callee (f := 67) rfl ?_); refine goesL_ (some 40) rfl rfl Try.func67 (by kernel_rfl) rfl #[.pointer (some ⟨g379, 0, none⟩)] rfl zat2 ?_; (with_reducible refine (abugidaref02_Reader_Int.calls kj11 g379 t397 t398 t399 t401 t402 t403 t404 w _ ?side1 ?side2 A17.out).mono ?_); (case side1 => exact zat5); (case side2 => exact zat3); rintro e w24 ⟨rfl, hi, hb, hk⟩; refine ⟨_, rfl, ?_⟩; have n0_ := Aside0.mk (Kd.R_mono (Kd.R_keep (IsS111.apart (show IsS111 w _ g379 t397 t398 t399 from by repeat (first | (with_reducible first | exact HI379.out | apply IsS111.alloc | apply IsS111.drewN | apply IsS111.drew | apply IsS111.set_0 | apply IsS111.set_1 | apply IsS111.set_2 | refine IsS111.far ?_ NB379_400.out _) | exact HI379.out)) (by (with_reducible repeat (first | apply Kd.R_alloc | apply Kd.R_drewN | apply Kd.R_drew)); exact (Kd.R_mono (Kd.R_far (p := ⟨gb400, 2, none⟩) (Kd.R_far (p := ⟨gb400, 1, none⟩) (Kd.R_far (p := ⟨gb400, 0, none⟩) (Kd.R_mono HO_11.out (fun k_ hk => (⟨hk, hk.2⟩ : _ ∧ k_ ≠ gb400))) (fun _ hk => hk.2) (.int .i64 t396)) (fun _ hk => hk.2) (.int .i64 0)) (fun _ hk => hk.2) (.int .i64 0)) (fun _ h_ => h_.1))) (by decide)) hk (fun _ h => h.2)) (fun _ h => h.1)); have n1_ := Aside0.mk (KeepBut.blk hk (g' := gb400) (o := .cells #[.int .i64 t396, .int .i64 0, .int .i64 0] 52 (0, 0)) (by (with_reducible repeat (first | refine blk_drewN ?_ _ | refine blk_drew ?_ | refine blk_alloc ?_ _)); refine blk_put (cs := #[.int .i64 t396, .int .i64 0, .int .i64 0]) ?_ 2 _ rfl; (with_reducible repeat (first | refine blk_drewN ?_ _ | refine blk_drew ?_ | refine blk_alloc ?_ _)); refine blk_put (cs := #[.int .i64 t396, .int .i64 0, .int .i64 0]) ?_ 1 _ rfl; (with_reducible repeat (first | refine blk_drewN ?_ _ | refine blk_drew ?_ | refine blk_alloc ?_ _)); refine blk_put (cs := #[.int .i64 0, .int .i64 0, .int .i64 0]) ?_ 0 _ rfl; (with_reducible repeat (first | refine blk_drewN ?_ _ | refine blk_drew ?_ | refine blk_alloc ?_ _)); exact BK400.out) NB400_379.out (by simp)); have n2_ := Aside0.mk (hb); have n3_ := Aside0.mk (hi); clear HO_11; clear BK400; clear HB; clear HI379; have HO_11 := n0_; have BK400 := n1_; have HB := n2_; have HI379 := n3_; clear n0_ n1_ n2_ n3_; (try clear hb); (try clear hb2); (try clear hk); (try clear hi); have hcz25_0 : w24.cell? ⟨gb400, 0, none⟩ = some (.int .i64 t396) := (blk_cell BK400.out 0).trans rfl; have hcz25_1 : w24.cell? ⟨gb400, 1, none⟩ = some (.int .i64 0) := (blk_cell BK400.out 1).trans rfl; have hcz25_2 : w24.cell? ⟨gb400, 2, none⟩ = some (.int .i64 0) := (blk_cell BK400.out 2).trans rfl; have hfz25_0 := blk_frozen BK400.out 0; have hfz25_1 := blk_frozen BK400.out 1; have hfz25_2 := blk_frozen BK400.out 2) | ((with_reducible refine gate_callee (f := 67) rfl ?_); refine goesL_ (some 43) rfl rfl Try.func67 (by kernel_rfl) rfl #[.pointer (some ⟨g379, 0, none⟩)] rfl zat2 ?_; (with_reducible refine (abugidaref02_Reader_Int.calls kj11 g379 t402 t403 t404 t405 t406 t407 t408 w _ ?side1 ?side2 A18.out).mono ?_); (case side1 => exact zat5); (case side2 => exact zat3); rintro e w26 ⟨rfl, hi, hb, hk⟩; refine ⟨_, rfl, ?_⟩; have n0_ := Aside0.mk (Kd.R_mono (Kd.R_keep (IsS111.apart (show IsS111 w _ g379 t402 t403 t404 from by repeat (first | (with_reducible first | exact HI379.out | apply IsS111.alloc | apply IsS111.drewN | apply IsS111.drew | apply IsS111.set_0 | apply IsS111.set_1 | apply IsS111.set_2 | refine IsS111.far ?_ NB379_400.out _) | exact HI379.out)) (by (with_reducible repeat (first | apply Kd.R_alloc | apply Kd.R_drewN | apply Kd.R_drew)); exact (Kd.R_mono (Kd.R_far (p := ⟨gb400, 1, none⟩) (Kd.R_mono HO_11.out (fun k_ hk => (⟨hk, hk.2⟩ : _ ∧ k_ ≠ gb400))) (fun _ hk => hk.2) (.int .i64 t401)) (fun _ h_ => h_.1))) (by decide)) hk (fun _ h => h.2)) (fun _ h => h.1)); have n1_ := Aside0.mk (KeepBut.blk hk (g' := gb400) (o := .cells #[.int .i64 t396, .int .i64 t401, .int .i64 0] 52 (0, 0)) (by (with_reducible repeat (first | refine blk_drewN ?_ _ | refine blk_drew ?_ | refine blk_alloc ?_ _)); refine blk_put (cs := #[.int .i64 t396, .int .i64 0, .int .i64 0]) ?_ 1 _ rfl; (with_reducible repeat (first | refine blk_drewN ?_ _ | refine blk_drew ?_ | refine blk_alloc ?_ _)); exact BK400.out) NB400_379.out (by simp)); have n2_ := Aside0.mk (hb); have n3_ := Aside0.mk (hi); clear HO_11; clear BK400; clear HB; clear HI379; have HO_11 := n0_; have BK400 := n1_; have HB := n2_; have HI379 := n3_; clear n0_ n1_ n2_ n3_; (try clear hb); (try clear hb2); (try clear hk); (try clear hi); have hcz27_0 : w26.cell? ⟨gb400, 0, none⟩ = some (.int .i64 t396) := (blk_cell BK400.out 0).trans rfl; have hcz27_1 : w26.cell? ⟨gb400, 1, none⟩ = some (.int .i64 t401) := (blk_cell BK400.out 1).trans rfl; have hcz27_2 : w26.cell? ⟨gb400, 2, none⟩ = some (.int .i64 0) := (blk_cell BK400.out 2).trans rfl; have hfz27_0 := blk_frozen BK400.out 0; have hfz27_1 := blk_frozen BK400.out 1; have hfz27_2 := blk_frozen BK400.out 2) | ((with_reducible refine gate_builtin (b := .append) (xs := #[.tmp 45, .tmp 47]) rfl ?_); at_builtin; refine Kd.R_append k52 (w0 := w) w.heap.size rfl (.tmp 45) (.tmp 47) 33 52 (.agg #[(.int .i64 0), (.int .i64 0), (.int .i64 0)]) 24 rfl Try.underlying33 info52 rfl (by decide) (by omega) u11 x11_1 (⟨t396, t401, t405⟩ : S52) [.int .i64 t396, .int .i64 t401, .int .i64 t405] (fun k_ => k_ ≠ gb400) (fun _ => False) rfl (by first | (go_simp; done) | (go_simp; rfl)) ?aP (fun _ hk => hk.elim) ?aF ?aO ?aB ?aS ?aL ?_; (case aP => exact k52_mkM _ _ _ (⟨t396, t401, t405⟩ : S52)); (case aB => exact zat3); (case aF => exact (fun k_ hk => Kd.freshB (g := gb400) (o := .cells #[.int .i64 t396, .int .i64 t401, .int .i64 t405] 52 (0, 0)) zat7 k_ hk)); (case aO => exact (by (with_reducible repeat (first | apply Kd.R_alloc | apply Kd.R_drewN | apply Kd.R_drew)); exact Kd.R_mono (Kd.R_far (p := ⟨gb400, 2, none⟩) (Kd.R_mono HO_11.out (fun k_ hk => (⟨hk, hk.2⟩ : _ ∧ k_ ≠ gb400))) (fun _ hk => hk.2) (.int .i64 t405)) (fun _ hk => hk.1.2))); (case aS => exact (below_size zat3)); (case aL => have := LMc19.out; omega); intro v410 w28 ho hb hg hat; rw [← Ny409.out] at ho; have z3_ : IsS111 w (w26.setCell ⟨gb400, 2, none⟩ (.int .i64 t405)) g379 t406 t407 t408 := IsS111.far HI379.out NB379_400.out _; have n0_ := Aside0.mk (IsS111.grown z3_ hg (IsS111.own_ne HI379.out HO_11.out (by decide))); have n1_ := Aside0.mk (blk_grown (g := gb400) (o := .cells #[.int .i64 t396, .int .i64 t401, .int .i64 t405] 52 (0, 0)) zat7 hg (Kd.R_away HO_11.out (fun _ hk => hk.2))); have n2_ := Aside0.mk (hb); have n3_ := Aside0.mk (ho); clear HI379; clear BK400; clear HB; clear HO_11; have HI379 := n0_; have BK400 := n1_; have HB := n2_; have HO411 := n3_; clear n0_ n1_ n2_ n3_; clear ho hb hg hat))
           go_roundg kj11
           case measure => have := HK1.out; have := HJ11.out; omega
           case rel => exact ⟨(y409), (wrap64 (x12_1 + 1)), (t406), (t407), (t408), zat10, H', ⟨by have := HK1.out; have := HJ11.out; omega⟩, ⟨by (with_reducible repeat (first | apply Kd.R_alloc | apply Kd.R_drewN | apply Kd.R_drew)); exact Kd.R_mono HO411.out (fun _ hk => trivial)⟩, ⟨zat5⟩, ⟨zat3⟩⟩
         · rw [if_neg c19] at H
           exact absurd H (by simp)
       · replace c15 := Bool.eq_false_iff.mpr c15
         subst c15
         rw [if_neg (show ¬ (false = true) by decide)] at H
         by_cases c29 : x380002_1 = true
         · subst c29
           rw [if_pos rfl] at H
           simp only [Option.some.injEq, Prod.mk.injEq] at H
           obtain ⟨rfl, rfl, rfl, rfl⟩ := H
           obtain ⟨HGz30, hgz30⟩ := HI379.out
           have hcz30_0 := cellS111_0 HGz30
           have hcz30_1 := cellS111_1 HGz30
           have hcz30_2 := cellS111_2 HGz30
           have hfz30_0 := blk_frozen HGz30 0
           have hfz30_1 := blk_frozen HGz30 1
           have hfz30_2 := blk_frozen HGz30 2
           clear HGz30 hgz30
           go_wp2
           refine bodyPost_ret (results_list (rs := [.tmp 2, .tmp 3, .tmp 4, .tmp 5]) rfl (by simp) (.tmp (.tmp (.tmp (.tmp .nil))))) rfl ?_
           exact ⟨_, zat8, zat6, zat0⟩
         · replace c29 := Bool.eq_false_iff.mpr c29
           subst c29
           rw [if_neg (show ¬ (false = true) by decide)] at H
           by_cases c31 : t380.toList = ([97, 115, 107] : List UInt8)
           · rw [if_pos c31] at H
             have c31b0 : (t380.toList == ([97, 115, 107] : List UInt8)) = true := beq_iff_eq.mpr c31
             have c31b1 : (t380.toList != ([97, 115, 107] : List UInt8)) = false := bne_eq_false_iff_eq.mpr c31
             clear c31
             replace H := Option.bind_eq_some_iff.mp H
             obtain ⟨t412, A320, H⟩ := H
             try dsimp only at H
             have A32 := Aside0.mk A320
             clear A320
             by_cases c33 : t412.toList = a0.toList
             · rw [if_pos c33] at H
               have c33b0 : (t412.toList == a0.toList) = true := beq_iff_eq.mpr c33
               have c33b1 : (t412.toList != a0.toList) = false := bne_eq_false_iff_eq.mpr c33
               clear c33
               simp only [Option.some.injEq, Prod.mk.injEq] at H
               obtain ⟨rfl, rfl, rfl, rfl⟩ := H
               obtain ⟨HGz34, hgz34⟩ := HI379.out
               have hcz34_0 := cellS111_0 HGz34
               have hcz34_1 := cellS111_1 HGz34
               have hcz34_2 := cellS111_2 HGz34
               have hfz34_0 := blk_frozen HGz34 0
               have hfz34_1 := blk_frozen HGz34 1
               have hfz34_2 := blk_frozen HGz34 2
               clear HGz34 hgz34
               obtain ⟨Ao35, co35, eo35⟩ := Kd.R_slice HO_11.out
               subst eo35
               go_wp2_with (first | (go_at_call 18; (with_reducible refine (abugidaref35_Ask.calls kj11 t384 t388 _ _ x11_1 t412 _ ?side1 ?side2 A32.out).mono ?_); (case side1 => exact zat9); (case side2 => exact (Kd.R_reads' HO_11.out).2.1); rintro e w36 ⟨rfl, hb⟩; have n0_ := Aside0.mk (Kd.R_below zat4 hb); have n1_ := Aside0.mk (IsS111.below zat1 hb); have n2_ := Aside0.mk (below_step zat0 hb); clear HO_11; clear HI379; clear HB; have HO_11 := n0_; have HI379 := n1_; have HB := n2_; clear n0_ n1_ n2_; (try clear hb); (try clear hb2); (try clear hk); (try clear hi)))
               refine bodyPost_ret (results_list (rs := [.tmp 2, .tmp 3, .tmp 4, .tmp 5]) rfl (by simp) (.tmp (.tmp (.tmp (.tmp .nil))))) rfl ?_
               exact ⟨_, zat8, zat4, zat0⟩
             · rw [if_neg c33] at H
               have c33b0 : (t412.toList == a0.toList) = false := beq_eq_false_iff_ne.mpr c33
               have c33b1 : (t412.toList != a0.toList) = true := bne_iff_ne.mpr c33
               simp only [Option.some.injEq, Prod.mk.injEq] at H
               obtain ⟨rfl, rfl, rfl, rfl⟩ := H
               obtain ⟨HGz37, hgz37⟩ := HI379.out
               have hcz37_0 := cellS111_0 HGz37
               have hcz37_1 := cellS111_1 HGz37
               have hcz37_2 := cellS111_2 HGz37
               have hfz37_0 := blk_frozen HGz37 0
               have hfz37_1 := blk_frozen HGz37 1
               have hfz37_2 := blk_frozen HGz37 2
               clear HGz37 hgz37
               obtain ⟨Ao38, co38, eo38⟩ := Kd.R_slice HO_11.out
               subst eo38
               go_wp2_with (first | (go_at_call 18; (with_reducible refine (abugidaref35_Ask.calls kj11 t384 t388 _ _ x11_1 t412 _ ?side1 ?side2 A32.out).mono ?_); (case side1 => exact zat9); (case side2 => exact (Kd.R_reads' HO_11.out).2.1); rintro e w39 ⟨rfl, hb⟩; have n0_ := Aside0.mk (Kd.R_below zat4 hb); have n1_ := Aside0.mk (IsS111.below zat1 hb); have n2_ := Aside0.mk (below_step zat0 hb); clear HO_11; clear HI379; clear HB; have HO_11 := n0_; have HI379 := n1_; have HB := n2_; clear n0_ n1_ n2_; (try clear hb); (try clear hb2); (try clear hk); (try clear hi)))
               refine bodyPost_ret (results_list (rs := [.tmp 2, .tmp 3, .tmp 4, .tmp 5]) rfl (by simp) (.tmp (.tmp (.tmp (.tmp .nil))))) rfl ?_
               exact ⟨_, zat8, zat6, zat0⟩
           · rw [if_neg c31] at H
             have c31b0 : (t380.toList == ([97, 115, 107] : List UInt8)) = false := beq_eq_false_iff_ne.mpr c31
             have c31b1 : (t380.toList != ([97, 115, 107] : List UInt8)) = true := bne_iff_ne.mpr c31
             simp only [Option.some.injEq, Prod.mk.injEq] at H
             obtain ⟨rfl, rfl, rfl, rfl⟩ := H
             obtain ⟨HGz40, hgz40⟩ := HI379.out
             have hcz40_0 := cellS111_0 HGz40
             have hcz40_1 := cellS111_1 HGz40
             have hcz40_2 := cellS111_2 HGz40
             have hfz40_0 := blk_frozen HGz40 0
             have hfz40_1 := blk_frozen HGz40 1
             have hfz40_2 := blk_frozen HGz40 2
             clear HGz40 hgz40
             go_wp2
             refine bodyPost_ret (results_list (rs := [.tmp 2, .tmp 3, .tmp 4, .tmp 5]) rfl (by simp) (.tmp (.tmp (.tmp (.tmp .nil))))) rfl ?_
             exact ⟨_, zat8, zat6, zat0⟩

end Go.Proofs.Ythokkeljfdfppaa.Pb
