-- Printed for this claim by its own gprint.py, over contracts proved by hand; not trusted: Lean checks it.
import Derived.Test.YtibdgpnedlpdbaaPbx0
import Derived.Test.YtibdgpnedlpdbaaPbx1
import Derived.Test.YtibdgpnedlpdbaaPbx2
import Derived.Test.YtibdgpnedlpdbaaGwB
namespace Go.Proofs.Ytibdgpnedlpdbaa.Pb
open Go.Proofs.Ytibdgpnedlpdbaa.Gw
open Go.RowKit Go.Proofs.YtibdgpnedlpdbaaW.PrintWords Go.Proofs.YtibdgpnedlpdbaaW.PrintLast Go.Proofs.YtibdgpnedlpdbaaW.PrintMore
attribute [local go_sem] max2_int min2_int max_two min_two max_three min_three max_four min_four   -- for this text's walks alone
set_option linter.unusedVariables false
set_option linter.unusedSimpArgs false

/-! ### abugidalaw02_sanity: function 10 -/
mutual
def abugidalaw02_sanity.j0 : Nat → Bool → Option (Bool)
  | 0, _ => none
  | k + 1, x1 => (wire_Text.f k (⟨#[97, 98]⟩ : ByteArray)).bind fun t141 => (if t141.toList = ([4, 97, 98] : List UInt8) then ((wire_Ints.f k (([1, (-2)] : List Int))).bind fun t145 => (if t145.toList = ([4, 2, 3] : List UInt8) then ((wire_Texts.f k (([(⟨#[]⟩ : ByteArray), (⟨#[97]⟩ : ByteArray)] : List ByteArray))).bind fun t149 => (abugidalaw02_sanity.j1 k x1 (t149.toList == ([4, 0, 2, 97] : List UInt8)))) else (abugidalaw02_sanity.j1 k x1 false))) else (abugidalaw02_sanity.j1 k x1 false))
def abugidalaw02_sanity.j1 : Nat → Bool → Bool → Option (Bool)
  | 0, _, _ => none
  | k + 1, x1, x2 => (wire_New.f (⟨#[4, 2, 3, 5]⟩ : ByteArray)).bind fun bt150 => ((wire_Reader_Ints.f k bt150.1 bt150.2).bind fun bt153 => ((wire_Reader_Left.f bt153.2.1 bt153.2.2).bind fun bt158 => ((wire_Reader_Int.f k bt158.2.1 bt158.2.2).bind fun bt161 => (if (bt153.1.length : Int) = 2 then (if 0 < (bt153.1.length : Int) then (if (rd bt153.1 0) = 1 then (if 1 < (bt153.1.length : Int) then (if (rd bt153.1 1) = (-2) then (if bt158.1 = 1 then (if bt161.1 = (-3) then ((wire_Reader_Bad.f bt161.2.1 bt161.2.2).bind fun bt166 => (if bt166.1 = true then (abugidalaw02_sanity.j2 k x1 x2 false) else ((wire_Reader_Left.f bt166.2.1 bt166.2.2).bind fun bt169 => (abugidalaw02_sanity.j2 k x1 x2 (bt169.1 == 0))))) else (abugidalaw02_sanity.j2 k x1 x2 false)) else (abugidalaw02_sanity.j2 k x1 x2 false)) else (abugidalaw02_sanity.j2 k x1 x2 false)) else (none)) else (abugidalaw02_sanity.j2 k x1 x2 false)) else (none)) else (abugidalaw02_sanity.j2 k x1 x2 false)))))
def abugidalaw02_sanity.j2 : Nat → Bool → Bool → Bool → Option (Bool)
  | 0, _, _, _ => none
  | k + 1, x1, x2, x7 => (wire_New.f (⟨#[1, 0]⟩ : ByteArray)).bind fun bt172 => ((wire_Reader_Text.f k bt172.1 bt172.2).bind fun bt175 => ((wire_Reader_Int.f k bt175.2.1 bt175.2.2).bind fun bt178 => (if x1 = true then (if x2 = true then (if x7 = true then (if bt175.1.toList = ([] : List UInt8) then (if bt178.1 = 0 then ((wire_Reader_Bad.f bt178.2.1 bt178.2.2).bind fun bt181 => (if bt181.1 = true then ((wire_Reader_Left.f bt181.2.1 bt181.2.2).bind fun bt184 => (some (bt184.1 == 0))) else (some false))) else (some false)) else (some false)) else (some false)) else (some false)) else (some false))))
end
def abugidalaw02_sanity.f (k : Nat)  : Option (Bool) := (wire_Int.f k 0).bind fun t135 => (if t135.toList = ([0] : List UInt8) then ((wire_Int.f k (-1)).bind fun t136 => (if t136.toList = ([1] : List UInt8) then ((wire_Int.f k 63).bind fun t137 => (if t137.toList = ([126] : List UInt8) then ((wire_Int.f k 64).bind fun t138 => (if t138.toList = ([128, 1] : List UInt8) then ((wire_Int.f k (-64)).bind fun t139 => (if t139.toList = ([127] : List UInt8) then ((wire_Int.f k 300).bind fun t140 => (abugidalaw02_sanity.j0 k (t140.toList == ([216, 4] : List UInt8)))) else (abugidalaw02_sanity.j0 k false))) else (abugidalaw02_sanity.j0 k false))) else (abugidalaw02_sanity.j0 k false))) else (abugidalaw02_sanity.j0 k false))) else (abugidalaw02_sanity.j0 k false))
theorem abugidalaw02_sanity.mono_l : ∀ k, (∀ y0, LeO (abugidalaw02_sanity.j0 k y0) (abugidalaw02_sanity.j0 (k + 1) y0)) ∧ (∀ y0 y1, LeO (abugidalaw02_sanity.j1 k y0 y1) (abugidalaw02_sanity.j1 (k + 1) y0 y1)) ∧ (∀ y0 y1 y2, LeO (abugidalaw02_sanity.j2 k y0 y1 y2) (abugidalaw02_sanity.j2 (k + 1) y0 y1 y2))
  | 0 => ⟨fun _ r h => by simp [abugidalaw02_sanity.j0] at h, fun _ _ r h => by simp [abugidalaw02_sanity.j1] at h, fun _ _ _ r h => by simp [abugidalaw02_sanity.j2] at h⟩
  | k + 1 => by
    obtain ⟨ih0, ih1, ih2⟩ := abugidalaw02_sanity.mono_l k
    refine ⟨?_, ?_, ?_⟩
    · intro y0
      unfold abugidalaw02_sanity.j0
      repeat' first
      | (with_reducible exact ih0 _)
      | (with_reducible exact ih1 _ _)
      | (with_reducible exact ih2 _ _ _)
      | (with_reducible exact wire_Int.mono _ _)
      | (with_reducible exact wire_Ints.mono _ _)
      | (with_reducible exact wire_Reader_Int.mono _ _ _)
      | (with_reducible exact wire_Reader_Ints.mono _ _ _)
      | (with_reducible exact wire_Reader_Text.mono _ _ _)
      | (with_reducible exact wire_Text.mono _ _)
      | (with_reducible exact wire_Texts.mono _ _)
      | (with_reducible exact LeO.refl _)
      | (with_reducible exact LeO.none _)
      | (with_reducible refine LeO.ite ?_ ?_)
      | (with_reducible refine LeO.bind ?_ (fun _ => ?_))
      | exact ih0 _
      | exact ih1 _ _
      | exact ih2 _ _ _
      | exact wire_Int.mono _ _
      | exact wire_Ints.mono _ _
      | exact wire_Reader_Int.mono _ _ _
      | exact wire_Reader_Ints.mono _ _ _
      | exact wire_Reader_Text.mono _ _ _
      | exact wire_Text.mono _ _
      | exact wire_Texts.mono _ _
      | exact LeO.none _
      | refine LeO.ite ?_ ?_
      | refine LeO.bind ?_ (fun _ => ?_)
    · intro y0 y1
      unfold abugidalaw02_sanity.j1
      repeat' first
      | (with_reducible exact ih0 _)
      | (with_reducible exact ih1 _ _)
      | (with_reducible exact ih2 _ _ _)
      | (with_reducible exact wire_Int.mono _ _)
      | (with_reducible exact wire_Ints.mono _ _)
      | (with_reducible exact wire_Reader_Int.mono _ _ _)
      | (with_reducible exact wire_Reader_Ints.mono _ _ _)
      | (with_reducible exact wire_Reader_Text.mono _ _ _)
      | (with_reducible exact wire_Text.mono _ _)
      | (with_reducible exact wire_Texts.mono _ _)
      | (with_reducible exact LeO.refl _)
      | (with_reducible exact LeO.none _)
      | (with_reducible refine LeO.ite ?_ ?_)
      | (with_reducible refine LeO.bind ?_ (fun _ => ?_))
      | exact ih0 _
      | exact ih1 _ _
      | exact ih2 _ _ _
      | exact wire_Int.mono _ _
      | exact wire_Ints.mono _ _
      | exact wire_Reader_Int.mono _ _ _
      | exact wire_Reader_Ints.mono _ _ _
      | exact wire_Reader_Text.mono _ _ _
      | exact wire_Text.mono _ _
      | exact wire_Texts.mono _ _
      | exact LeO.none _
      | refine LeO.ite ?_ ?_
      | refine LeO.bind ?_ (fun _ => ?_)
    · intro y0 y1 y2
      unfold abugidalaw02_sanity.j2
      repeat' first
      | (with_reducible exact ih0 _)
      | (with_reducible exact ih1 _ _)
      | (with_reducible exact ih2 _ _ _)
      | (with_reducible exact wire_Int.mono _ _)
      | (with_reducible exact wire_Ints.mono _ _)
      | (with_reducible exact wire_Reader_Int.mono _ _ _)
      | (with_reducible exact wire_Reader_Ints.mono _ _ _)
      | (with_reducible exact wire_Reader_Text.mono _ _ _)
      | (with_reducible exact wire_Text.mono _ _)
      | (with_reducible exact wire_Texts.mono _ _)
      | (with_reducible exact LeO.refl _)
      | (with_reducible exact LeO.none _)
      | (with_reducible refine LeO.ite ?_ ?_)
      | (with_reducible refine LeO.bind ?_ (fun _ => ?_))
      | exact ih0 _
      | exact ih1 _ _
      | exact ih2 _ _ _
      | exact wire_Int.mono _ _
      | exact wire_Ints.mono _ _
      | exact wire_Reader_Int.mono _ _ _
      | exact wire_Reader_Ints.mono _ _ _
      | exact wire_Reader_Text.mono _ _ _
      | exact wire_Text.mono _ _
      | exact wire_Texts.mono _ _
      | exact LeO.none _
      | refine LeO.ite ?_ ?_
      | refine LeO.bind ?_ (fun _ => ?_)
theorem abugidalaw02_sanity.mono : ∀ k, LeO (abugidalaw02_sanity.f k ) (abugidalaw02_sanity.f (k + 1) ) := by
  intro  k
  obtain ⟨ih0, ih1, ih2⟩ := abugidalaw02_sanity.mono_l k
  unfold abugidalaw02_sanity.f
  repeat' first
      | (with_reducible exact ih0 _)
      | (with_reducible exact ih1 _ _)
      | (with_reducible exact ih2 _ _ _)
      | (with_reducible exact wire_Int.mono _ _)
      | (with_reducible exact wire_Ints.mono _ _)
      | (with_reducible exact wire_Reader_Int.mono _ _ _)
      | (with_reducible exact wire_Reader_Ints.mono _ _ _)
      | (with_reducible exact wire_Reader_Text.mono _ _ _)
      | (with_reducible exact wire_Text.mono _ _)
      | (with_reducible exact wire_Texts.mono _ _)
      | (with_reducible exact LeO.refl _)
      | (with_reducible exact LeO.none _)
      | (with_reducible refine LeO.ite ?_ ?_)
      | (with_reducible refine LeO.bind ?_ (fun _ => ?_))
      | exact ih0 _
      | exact ih1 _ _
      | exact ih2 _ _ _
      | exact wire_Int.mono _ _
      | exact wire_Ints.mono _ _
      | exact wire_Reader_Int.mono _ _ _
      | exact wire_Reader_Ints.mono _ _ _
      | exact wire_Reader_Text.mono _ _ _
      | exact wire_Text.mono _ _
      | exact wire_Texts.mono _ _
      | exact LeO.none _
      | refine LeO.ite ?_ ?_
      | refine LeO.bind ?_ (fun _ => ?_)
set_option maxHeartbeats 8000000 in
set_option maxRecDepth 100000 in
theorem abugidalaw02_sanity.calls (k : Nat)  (r : Bool) (w : World) (h : abugidalaw02_sanity.f k  = some r) :
    Calls Try.prog 10 #[] w fun e w' => e = .returned (.bool r) ∧ Below w.heap.size w w' := by
  have HB := Aside0.mk (Below.refl w.heap.size w)
  have H : ((wire_Int.f k 0).bind fun t135 => (if t135.toList = ([0] : List UInt8) then ((wire_Int.f k (-1)).bind fun t136 => (if t136.toList = ([1] : List UInt8) then ((wire_Int.f k 63).bind fun t137 => (if t137.toList = ([126] : List UInt8) then ((wire_Int.f k 64).bind fun t138 => (if t138.toList = ([128, 1] : List UInt8) then ((wire_Int.f k (-64)).bind fun t139 => (if t139.toList = ([127] : List UInt8) then ((wire_Int.f k 300).bind fun t140 => (abugidalaw02_sanity.j0 k (t140.toList == ([216, 4] : List UInt8)))) else (abugidalaw02_sanity.j0 k false))) else (abugidalaw02_sanity.j0 k false))) else (abugidalaw02_sanity.j0 k false))) else (abugidalaw02_sanity.j0 k false))) else (abugidalaw02_sanity.j0 k false))) = some r := h
  clear h
  have HC1 := Aside0.mk H
  clear H
  go_enter Try.func10, Try.ntmps10
  go_upto_region 1 with (fail)
  go_cut [1] (fun v1 wc => ∃ (kq : Nat) (x1_0 : Bool), v1 = .bool x1_0 ∧ Aside0 (abugidalaw02_sanity.j0 kq x1_0 = some r) ∧ Aside0 (kq ≤ k) ∧ Aside0 (Below w.heap.size w wc))
  case first =>
    have H := HC1.out
    clear HC1
    replace H := Option.bind_eq_some_iff.mp H
    obtain ⟨t135, A20, H⟩ := H
    replace H : (if t135.toList = ([0] : List UInt8) then ((wire_Int.f k (-1)).bind fun t136 => (if t136.toList = ([1] : List UInt8) then ((wire_Int.f k 63).bind fun t137 => (if t137.toList = ([126] : List UInt8) then ((wire_Int.f k 64).bind fun t138 => (if t138.toList = ([128, 1] : List UInt8) then ((wire_Int.f k (-64)).bind fun t139 => (if t139.toList = ([127] : List UInt8) then ((wire_Int.f k 300).bind fun t140 => (abugidalaw02_sanity.j0 k (t140.toList == ([216, 4] : List UInt8)))) else (abugidalaw02_sanity.j0 k false))) else (abugidalaw02_sanity.j0 k false))) else (abugidalaw02_sanity.j0 k false))) else (abugidalaw02_sanity.j0 k false))) else (abugidalaw02_sanity.j0 k false)) = some r := H
    have A2 := Aside0.mk A20
    clear A20
    by_cases c3 : t135.toList = ([0] : List UInt8)
    · rw [if_pos c3] at H
      have c3b0 : (t135.toList == ([0] : List UInt8)) = true := beq_iff_eq.mpr c3
      have c3b1 : (t135.toList != ([0] : List UInt8)) = false := bne_eq_false_iff_eq.mpr c3
      clear c3
      (first | rw [c3b0] | (simp only [i64_w, i32_w]; rw [c3b0]) | skip)
      replace H := Option.bind_eq_some_iff.mp H
      obtain ⟨t136, A40, H⟩ := H
      replace H : (if t136.toList = ([1] : List UInt8) then ((wire_Int.f k 63).bind fun t137 => (if t137.toList = ([126] : List UInt8) then ((wire_Int.f k 64).bind fun t138 => (if t138.toList = ([128, 1] : List UInt8) then ((wire_Int.f k (-64)).bind fun t139 => (if t139.toList = ([127] : List UInt8) then ((wire_Int.f k 300).bind fun t140 => (abugidalaw02_sanity.j0 k (t140.toList == ([216, 4] : List UInt8)))) else (abugidalaw02_sanity.j0 k false))) else (abugidalaw02_sanity.j0 k false))) else (abugidalaw02_sanity.j0 k false))) else (abugidalaw02_sanity.j0 k false)) = some r := H
      have A4 := Aside0.mk A40
      clear A40
      by_cases c5 : t136.toList = ([1] : List UInt8)
      · rw [if_pos c5] at H
        have c5b0 : (t136.toList == ([1] : List UInt8)) = true := beq_iff_eq.mpr c5
        have c5b1 : (t136.toList != ([1] : List UInt8)) = false := bne_eq_false_iff_eq.mpr c5
        clear c5
        replace H := Option.bind_eq_some_iff.mp H
        obtain ⟨t137, A60, H⟩ := H
        replace H : (if t137.toList = ([126] : List UInt8) then ((wire_Int.f k 64).bind fun t138 => (if t138.toList = ([128, 1] : List UInt8) then ((wire_Int.f k (-64)).bind fun t139 => (if t139.toList = ([127] : List UInt8) then ((wire_Int.f k 300).bind fun t140 => (abugidalaw02_sanity.j0 k (t140.toList == ([216, 4] : List UInt8)))) else (abugidalaw02_sanity.j0 k false))) else (abugidalaw02_sanity.j0 k false))) else (abugidalaw02_sanity.j0 k false)) = some r := H
        have A6 := Aside0.mk A60
        clear A60
        by_cases c7 : t137.toList = ([126] : List UInt8)
        · rw [if_pos c7] at H
          have c7b0 : (t137.toList == ([126] : List UInt8)) = true := beq_iff_eq.mpr c7
          have c7b1 : (t137.toList != ([126] : List UInt8)) = false := bne_eq_false_iff_eq.mpr c7
          clear c7
          replace H := Option.bind_eq_some_iff.mp H
          obtain ⟨t138, A80, H⟩ := H
          replace H : (if t138.toList = ([128, 1] : List UInt8) then ((wire_Int.f k (-64)).bind fun t139 => (if t139.toList = ([127] : List UInt8) then ((wire_Int.f k 300).bind fun t140 => (abugidalaw02_sanity.j0 k (t140.toList == ([216, 4] : List UInt8)))) else (abugidalaw02_sanity.j0 k false))) else (abugidalaw02_sanity.j0 k false)) = some r := H
          have A8 := Aside0.mk A80
          clear A80
          by_cases c9 : t138.toList = ([128, 1] : List UInt8)
          · rw [if_pos c9] at H
            have c9b0 : (t138.toList == ([128, 1] : List UInt8)) = true := beq_iff_eq.mpr c9
            have c9b1 : (t138.toList != ([128, 1] : List UInt8)) = false := bne_eq_false_iff_eq.mpr c9
            clear c9
            replace H := Option.bind_eq_some_iff.mp H
            obtain ⟨t139, A100, H⟩ := H
            replace H : (if t139.toList = ([127] : List UInt8) then ((wire_Int.f k 300).bind fun t140 => (abugidalaw02_sanity.j0 k (t140.toList == ([216, 4] : List UInt8)))) else (abugidalaw02_sanity.j0 k false)) = some r := H
            have A10 := Aside0.mk A100
            clear A100
            by_cases c11 : t139.toList = ([127] : List UInt8)
            · rw [if_pos c11] at H
              have c11b0 : (t139.toList == ([127] : List UInt8)) = true := beq_iff_eq.mpr c11
              have c11b1 : (t139.toList != ([127] : List UInt8)) = false := bne_eq_false_iff_eq.mpr c11
              clear c11
              replace H := Option.bind_eq_some_iff.mp H
              obtain ⟨t140, A120, H⟩ := H
              replace H : (abugidalaw02_sanity.j0 k (t140.toList == ([216, 4] : List UInt8))) = some r := H
              have A12 := Aside0.mk A120
              clear A120
              have H' := Aside0.mk H
              clear H
              go_wp2_with (first | ((with_reducible refine gate_callee (f := 11) rfl ?_); refine goesL_ (some 11) rfl rfl Try.func11 (by kernel_rfl) rfl #[.int .i64 0] rfl (by (try simp only [List.map_toArray, List.map_cons, List.map_nil]); first | done | rfl | (simp only [List.length_drop, List.length_take]; rfl)) ?_; (with_reducible refine (wire_Int.calls k 0 t135 _ A2.out).mono ?_); rintro e w13 ⟨rfl, hb⟩; refine ⟨_, rfl, ?_⟩; have n0_ := Aside0.mk (below_step (by repeat (first | (with_reducible first | exact HB.out | apply below_alloc | apply pw_below_drewN | apply below_drew1) | exact HB.out)) hb); clear HB; have HB := n0_; clear n0_; (try clear hb); (try clear hb2); (try clear hk); (try clear hi)) | (go_at_call 11; (with_reducible refine (wire_Int.calls k (-1) t136 _ A4.out).mono ?_); rintro e w14 ⟨rfl, hb⟩; have n0_ := Aside0.mk (below_step (by repeat (first | (with_reducible first | exact HB.out | apply below_alloc | apply pw_below_drewN | apply below_drew1) | exact HB.out)) hb); clear HB; have HB := n0_; clear n0_; (try clear hb); (try clear hb2); (try clear hk); (try clear hi)) | (go_at_call 11; (with_reducible refine (wire_Int.calls k 63 t137 _ A6.out).mono ?_); rintro e w15 ⟨rfl, hb⟩; have n0_ := Aside0.mk (below_step (by repeat (first | (with_reducible first | exact HB.out | apply below_alloc | apply pw_below_drewN | apply below_drew1) | exact HB.out)) hb); clear HB; have HB := n0_; clear n0_; (try clear hb); (try clear hb2); (try clear hk); (try clear hi)) | (go_at_call 11; (with_reducible refine (wire_Int.calls k 64 t138 _ A8.out).mono ?_); rintro e w16 ⟨rfl, hb⟩; have n0_ := Aside0.mk (below_step (by repeat (first | (with_reducible first | exact HB.out | apply below_alloc | apply pw_below_drewN | apply below_drew1) | exact HB.out)) hb); clear HB; have HB := n0_; clear n0_; (try clear hb); (try clear hb2); (try clear hk); (try clear hi)) | (go_at_call 11; (with_reducible refine (wire_Int.calls k (-64) t139 _ A10.out).mono ?_); rintro e w17 ⟨rfl, hb⟩; have n0_ := Aside0.mk (below_step (by repeat (first | (with_reducible first | exact HB.out | apply below_alloc | apply pw_below_drewN | apply below_drew1) | exact HB.out)) hb); clear HB; have HB := n0_; clear n0_; (try clear hb); (try clear hb2); (try clear hk); (try clear hi)) | (go_at_call 11; (with_reducible refine (wire_Int.calls k 300 t140 _ A12.out).mono ?_); rintro e w18 ⟨rfl, hb⟩; have n0_ := Aside0.mk (below_step (by repeat (first | (with_reducible first | exact HB.out | apply below_alloc | apply pw_below_drewN | apply below_drew1) | exact HB.out)) hb); clear HB; have HB := n0_; clear n0_; (try clear hb); (try clear hb2); (try clear hk); (try clear hi)))
              go_meet
              case rel => exact ⟨_, ((t140.toList == ([216, 4] : List UInt8))), (by first | rfl | (simp; done) | (simp [*]; done)), H', ⟨by first | omega | exact Nat.le_refl _⟩, ⟨by repeat (first | (with_reducible first | exact HB.out | apply below_alloc | apply pw_below_drewN | apply below_drew1) | exact HB.out)⟩⟩
            · rw [if_neg c11] at H
              have c11b0 : (t139.toList == ([127] : List UInt8)) = false := beq_eq_false_iff_ne.mpr c11
              have c11b1 : (t139.toList != ([127] : List UInt8)) = true := bne_iff_ne.mpr c11
              have H' := Aside0.mk H
              clear H
              go_wp2_with (first | ((with_reducible refine gate_callee (f := 11) rfl ?_); refine goesL_ (some 11) rfl rfl Try.func11 (by kernel_rfl) rfl #[.int .i64 0] rfl (by (try simp only [List.map_toArray, List.map_cons, List.map_nil]); first | done | rfl | (simp only [List.length_drop, List.length_take]; rfl)) ?_; (with_reducible refine (wire_Int.calls k 0 t135 _ A2.out).mono ?_); rintro e w19 ⟨rfl, hb⟩; refine ⟨_, rfl, ?_⟩; have n0_ := Aside0.mk (below_step (by repeat (first | (with_reducible first | exact HB.out | apply below_alloc | apply pw_below_drewN | apply below_drew1) | exact HB.out)) hb); clear HB; have HB := n0_; clear n0_; (try clear hb); (try clear hb2); (try clear hk); (try clear hi)) | (go_at_call 11; (with_reducible refine (wire_Int.calls k (-1) t136 _ A4.out).mono ?_); rintro e w20 ⟨rfl, hb⟩; have n0_ := Aside0.mk (below_step (by repeat (first | (with_reducible first | exact HB.out | apply below_alloc | apply pw_below_drewN | apply below_drew1) | exact HB.out)) hb); clear HB; have HB := n0_; clear n0_; (try clear hb); (try clear hb2); (try clear hk); (try clear hi)) | (go_at_call 11; (with_reducible refine (wire_Int.calls k 63 t137 _ A6.out).mono ?_); rintro e w21 ⟨rfl, hb⟩; have n0_ := Aside0.mk (below_step (by repeat (first | (with_reducible first | exact HB.out | apply below_alloc | apply pw_below_drewN | apply below_drew1) | exact HB.out)) hb); clear HB; have HB := n0_; clear n0_; (try clear hb); (try clear hb2); (try clear hk); (try clear hi)) | (go_at_call 11; (with_reducible refine (wire_Int.calls k 64 t138 _ A8.out).mono ?_); rintro e w22 ⟨rfl, hb⟩; have n0_ := Aside0.mk (below_step (by repeat (first | (with_reducible first | exact HB.out | apply below_alloc | apply pw_below_drewN | apply below_drew1) | exact HB.out)) hb); clear HB; have HB := n0_; clear n0_; (try clear hb); (try clear hb2); (try clear hk); (try clear hi)) | (go_at_call 11; (with_reducible refine (wire_Int.calls k (-64) t139 _ A10.out).mono ?_); rintro e w23 ⟨rfl, hb⟩; have n0_ := Aside0.mk (below_step (by repeat (first | (with_reducible first | exact HB.out | apply below_alloc | apply pw_below_drewN | apply below_drew1) | exact HB.out)) hb); clear HB; have HB := n0_; clear n0_; (try clear hb); (try clear hb2); (try clear hk); (try clear hi)))
              go_meet
              case rel => exact ⟨_, (false), (by first | rfl | (simp; done) | (simp [*]; done)), H', ⟨by first | omega | exact Nat.le_refl _⟩, ⟨by repeat (first | (with_reducible first | exact HB.out | apply below_alloc | apply pw_below_drewN | apply below_drew1) | exact HB.out)⟩⟩
          · rw [if_neg c9] at H
            have c9b0 : (t138.toList == ([128, 1] : List UInt8)) = false := beq_eq_false_iff_ne.mpr c9
            have c9b1 : (t138.toList != ([128, 1] : List UInt8)) = true := bne_iff_ne.mpr c9
            have H' := Aside0.mk H
            clear H
            go_wp2_with (first | ((with_reducible refine gate_callee (f := 11) rfl ?_); refine goesL_ (some 11) rfl rfl Try.func11 (by kernel_rfl) rfl #[.int .i64 0] rfl (by (try simp only [List.map_toArray, List.map_cons, List.map_nil]); first | done | rfl | (simp only [List.length_drop, List.length_take]; rfl)) ?_; (with_reducible refine (wire_Int.calls k 0 t135 _ A2.out).mono ?_); rintro e w24 ⟨rfl, hb⟩; refine ⟨_, rfl, ?_⟩; have n0_ := Aside0.mk (below_step (by repeat (first | (with_reducible first | exact HB.out | apply below_alloc | apply pw_below_drewN | apply below_drew1) | exact HB.out)) hb); clear HB; have HB := n0_; clear n0_; (try clear hb); (try clear hb2); (try clear hk); (try clear hi)) | (go_at_call 11; (with_reducible refine (wire_Int.calls k (-1) t136 _ A4.out).mono ?_); rintro e w25 ⟨rfl, hb⟩; have n0_ := Aside0.mk (below_step (by repeat (first | (with_reducible first | exact HB.out | apply below_alloc | apply pw_below_drewN | apply below_drew1) | exact HB.out)) hb); clear HB; have HB := n0_; clear n0_; (try clear hb); (try clear hb2); (try clear hk); (try clear hi)) | (go_at_call 11; (with_reducible refine (wire_Int.calls k 63 t137 _ A6.out).mono ?_); rintro e w26 ⟨rfl, hb⟩; have n0_ := Aside0.mk (below_step (by repeat (first | (with_reducible first | exact HB.out | apply below_alloc | apply pw_below_drewN | apply below_drew1) | exact HB.out)) hb); clear HB; have HB := n0_; clear n0_; (try clear hb); (try clear hb2); (try clear hk); (try clear hi)) | (go_at_call 11; (with_reducible refine (wire_Int.calls k 64 t138 _ A8.out).mono ?_); rintro e w27 ⟨rfl, hb⟩; have n0_ := Aside0.mk (below_step (by repeat (first | (with_reducible first | exact HB.out | apply below_alloc | apply pw_below_drewN | apply below_drew1) | exact HB.out)) hb); clear HB; have HB := n0_; clear n0_; (try clear hb); (try clear hb2); (try clear hk); (try clear hi)))
            go_meet
            case rel => exact ⟨_, (false), (by first | rfl | (simp; done) | (simp [*]; done)), H', ⟨by first | omega | exact Nat.le_refl _⟩, ⟨by repeat (first | (with_reducible first | exact HB.out | apply below_alloc | apply pw_below_drewN | apply below_drew1) | exact HB.out)⟩⟩
        · rw [if_neg c7] at H
          have c7b0 : (t137.toList == ([126] : List UInt8)) = false := beq_eq_false_iff_ne.mpr c7
          have c7b1 : (t137.toList != ([126] : List UInt8)) = true := bne_iff_ne.mpr c7
          have H' := Aside0.mk H
          clear H
          go_wp2_with (first | ((with_reducible refine gate_callee (f := 11) rfl ?_); refine goesL_ (some 11) rfl rfl Try.func11 (by kernel_rfl) rfl #[.int .i64 0] rfl (by (try simp only [List.map_toArray, List.map_cons, List.map_nil]); first | done | rfl | (simp only [List.length_drop, List.length_take]; rfl)) ?_; (with_reducible refine (wire_Int.calls k 0 t135 _ A2.out).mono ?_); rintro e w28 ⟨rfl, hb⟩; refine ⟨_, rfl, ?_⟩; have n0_ := Aside0.mk (below_step (by repeat (first | (with_reducible first | exact HB.out | apply below_alloc | apply pw_below_drewN | apply below_drew1) | exact HB.out)) hb); clear HB; have HB := n0_; clear n0_; (try clear hb); (try clear hb2); (try clear hk); (try clear hi)) | (go_at_call 11; (with_reducible refine (wire_Int.calls k (-1) t136 _ A4.out).mono ?_); rintro e w29 ⟨rfl, hb⟩; have n0_ := Aside0.mk (below_step (by repeat (first | (with_reducible first | exact HB.out | apply below_alloc | apply pw_below_drewN | apply below_drew1) | exact HB.out)) hb); clear HB; have HB := n0_; clear n0_; (try clear hb); (try clear hb2); (try clear hk); (try clear hi)) | (go_at_call 11; (with_reducible refine (wire_Int.calls k 63 t137 _ A6.out).mono ?_); rintro e w30 ⟨rfl, hb⟩; have n0_ := Aside0.mk (below_step (by repeat (first | (with_reducible first | exact HB.out | apply below_alloc | apply pw_below_drewN | apply below_drew1) | exact HB.out)) hb); clear HB; have HB := n0_; clear n0_; (try clear hb); (try clear hb2); (try clear hk); (try clear hi)))
          go_meet
          case rel => exact ⟨_, (false), (by first | rfl | (simp; done) | (simp [*]; done)), H', ⟨by first | omega | exact Nat.le_refl _⟩, ⟨by repeat (first | (with_reducible first | exact HB.out | apply below_alloc | apply pw_below_drewN | apply below_drew1) | exact HB.out)⟩⟩
      · rw [if_neg c5] at H
        have c5b0 : (t136.toList == ([1] : List UInt8)) = false := beq_eq_false_iff_ne.mpr c5
        have c5b1 : (t136.toList != ([1] : List UInt8)) = true := bne_iff_ne.mpr c5
        have H' := Aside0.mk H
        clear H
        go_wp2_with (first | ((with_reducible refine gate_callee (f := 11) rfl ?_); refine goesL_ (some 11) rfl rfl Try.func11 (by kernel_rfl) rfl #[.int .i64 0] rfl (by (try simp only [List.map_toArray, List.map_cons, List.map_nil]); first | done | rfl | (simp only [List.length_drop, List.length_take]; rfl)) ?_; (with_reducible refine (wire_Int.calls k 0 t135 _ A2.out).mono ?_); rintro e w31 ⟨rfl, hb⟩; refine ⟨_, rfl, ?_⟩; have n0_ := Aside0.mk (below_step (by repeat (first | (with_reducible first | exact HB.out | apply below_alloc | apply pw_below_drewN | apply below_drew1) | exact HB.out)) hb); clear HB; have HB := n0_; clear n0_; (try clear hb); (try clear hb2); (try clear hk); (try clear hi)) | (go_at_call 11; (with_reducible refine (wire_Int.calls k (-1) t136 _ A4.out).mono ?_); rintro e w32 ⟨rfl, hb⟩; have n0_ := Aside0.mk (below_step (by repeat (first | (with_reducible first | exact HB.out | apply below_alloc | apply pw_below_drewN | apply below_drew1) | exact HB.out)) hb); clear HB; have HB := n0_; clear n0_; (try clear hb); (try clear hb2); (try clear hk); (try clear hi)))
        go_meet
        case rel => exact ⟨_, (false), (by first | rfl | (simp; done) | (simp [*]; done)), H', ⟨by first | omega | exact Nat.le_refl _⟩, ⟨by repeat (first | (with_reducible first | exact HB.out | apply below_alloc | apply pw_below_drewN | apply below_drew1) | exact HB.out)⟩⟩
    · rw [if_neg c3] at H
      have c3b0 : (t135.toList == ([0] : List UInt8)) = false := beq_eq_false_iff_ne.mpr c3
      have c3b1 : (t135.toList != ([0] : List UInt8)) = true := bne_iff_ne.mpr c3
      (first | rw [c3b0] | (simp only [i64_w, i32_w]; rw [c3b0]) | skip)
      have H' := Aside0.mk H
      clear H
      go_wp2_with (first | ((with_reducible refine gate_callee (f := 11) rfl ?_); refine goesL_ (some 11) rfl rfl Try.func11 (by kernel_rfl) rfl #[.int .i64 0] rfl (by (try simp only [List.map_toArray, List.map_cons, List.map_nil]); first | done | rfl | (simp only [List.length_drop, List.length_take]; rfl)) ?_; (with_reducible refine (wire_Int.calls k 0 t135 _ A2.out).mono ?_); rintro e w33 ⟨rfl, hb⟩; refine ⟨_, rfl, ?_⟩; have n0_ := Aside0.mk (below_step (by repeat (first | (with_reducible first | exact HB.out | apply below_alloc | apply pw_below_drewN | apply below_drew1) | exact HB.out)) hb); clear HB; have HB := n0_; clear n0_; (try clear hb); (try clear hb2); (try clear hk); (try clear hi)))
      go_meet
      case rel => exact ⟨_, (false), (by first | rfl | (simp; done) | (simp [*]; done)), H', ⟨by first | omega | exact Nat.le_refl _⟩, ⟨by repeat (first | (with_reducible first | exact HB.out | apply below_alloc | apply pw_below_drewN | apply below_drew1) | exact HB.out)⟩⟩
  case rest =>
    clear HC1
    try clear c1
    try clear p2
    try clear c3
    try clear c3b0
    try clear c3b1
    try clear c5
    try clear c5b0
    try clear c5b1
    try clear c7
    try clear c7b0
    try clear c7b1
    try clear c9
    try clear c9b0
    try clear c9b1
    try clear c10
    try clear c11
    try clear c11b0
    try clear c11b1
    obtain ⟨kq, x1_0, rfl, HA, HJ0, HB⟩ := hcut
    cases kq with
    | zero => exact absurd HA.out (by simp [abugidalaw02_sanity.j0])
    | succ kj0 =>
      have H := HA.out
      clear HA
      simp only [abugidalaw02_sanity.j0] at H
      have HC34 := Aside0.mk H
      clear H
      go_upto_region 2 with (fail)
      go_cut [2] (fun v2 wc => ∃ (kq : Nat) (x2_33 : Bool), v2 = .bool x2_33 ∧ Aside0 (abugidalaw02_sanity.j1 kq x1_0 x2_33 = some r) ∧ Aside0 (kq ≤ kj0) ∧ Aside0 (Below w.heap.size w wc))
      case first =>
        have H := HC34.out
        clear HC34
        replace H := Option.bind_eq_some_iff.mp H
        obtain ⟨t141, A350, H⟩ := H
        replace H : (if t141.toList = ([4, 97, 98] : List UInt8) then ((wire_Ints.f kj0 (([1, (-2)] : List Int))).bind fun t145 => (if t145.toList = ([4, 2, 3] : List UInt8) then ((wire_Texts.f kj0 (([(⟨#[]⟩ : ByteArray), (⟨#[97]⟩ : ByteArray)] : List ByteArray))).bind fun t149 => (abugidalaw02_sanity.j1 kj0 x1_0 (t149.toList == ([4, 0, 2, 97] : List UInt8)))) else (abugidalaw02_sanity.j1 kj0 x1_0 false))) else (abugidalaw02_sanity.j1 kj0 x1_0 false)) = some r := H
        have A35 := Aside0.mk A350
        clear A350
        by_cases c36 : t141.toList = ([4, 97, 98] : List UInt8)
        · rw [if_pos c36] at H
          have c36b0 : (t141.toList == ([4, 97, 98] : List UInt8)) = true := beq_iff_eq.mpr c36
          have c36b1 : (t141.toList != ([4, 97, 98] : List UInt8)) = false := bne_eq_false_iff_eq.mpr c36
          clear c36
          (first | rw [c36b0] | (simp only [i64_w, i32_w]; rw [c36b0]) | skip)
          obtain ⟨y142, hy142⟩ : ∃ y_ : List Int, y_ = (([1, (-2)] : List Int)) := ⟨_, rfl⟩
          replace H : ((wire_Ints.f kj0 y142).bind fun t145 => (if t145.toList = ([4, 2, 3] : List UInt8) then ((wire_Texts.f kj0 (([(⟨#[]⟩ : ByteArray), (⟨#[97]⟩ : ByteArray)] : List ByteArray))).bind fun t149 => (abugidalaw02_sanity.j1 kj0 x1_0 (t149.toList == ([4, 0, 2, 97] : List UInt8)))) else (abugidalaw02_sanity.j1 kj0 x1_0 false))) = some r := by first | (rw [hy142]; with_reducible exact H) | (have H2_ := (Option.bind_some _ _).symm.trans H; rw [hy142]; with_reducible exact H2_) | (have H2_ := (Option.bind_some _ _).symm.trans H; with_reducible exact H2_) | with_reducible exact H | (rw [hy142]; exact H) | exact H
          have Ny142 := Aside0.mk hy142
          clear hy142
          replace H := Option.bind_eq_some_iff.mp H
          obtain ⟨t145, A370, H⟩ := H
          replace H : (if t145.toList = ([4, 2, 3] : List UInt8) then ((wire_Texts.f kj0 (([(⟨#[]⟩ : ByteArray), (⟨#[97]⟩ : ByteArray)] : List ByteArray))).bind fun t149 => (abugidalaw02_sanity.j1 kj0 x1_0 (t149.toList == ([4, 0, 2, 97] : List UInt8)))) else (abugidalaw02_sanity.j1 kj0 x1_0 false)) = some r := H
          have A37 := Aside0.mk A370
          clear A370
          by_cases c38 : t145.toList = ([4, 2, 3] : List UInt8)
          · rw [if_pos c38] at H
            have c38b0 : (t145.toList == ([4, 2, 3] : List UInt8)) = true := beq_iff_eq.mpr c38
            have c38b1 : (t145.toList != ([4, 2, 3] : List UInt8)) = false := bne_eq_false_iff_eq.mpr c38
            clear c38
            obtain ⟨y146, hy146⟩ : ∃ y_ : List ByteArray, y_ = (([(⟨#[]⟩ : ByteArray), (⟨#[97]⟩ : ByteArray)] : List ByteArray)) := ⟨_, rfl⟩
            replace H : ((wire_Texts.f kj0 y146).bind fun t149 => (abugidalaw02_sanity.j1 kj0 x1_0 (t149.toList == ([4, 0, 2, 97] : List UInt8)))) = some r := by first | (rw [hy146]; with_reducible exact H) | (have H2_ := (Option.bind_some _ _).symm.trans H; rw [hy146]; with_reducible exact H2_) | (have H2_ := (Option.bind_some _ _).symm.trans H; with_reducible exact H2_) | with_reducible exact H | (rw [hy146]; exact H) | exact H
            have Ny146 := Aside0.mk hy146
            clear hy146
            replace H := Option.bind_eq_some_iff.mp H
            obtain ⟨t149, A390, H⟩ := H
            replace H : (abugidalaw02_sanity.j1 kj0 x1_0 (t149.toList == ([4, 0, 2, 97] : List UInt8))) = some r := H
            have A39 := Aside0.mk A390
            clear A390
            have H' := Aside0.mk H
            clear H
            go_wp2_with (first | ((with_reducible refine gate_callee (f := 18) rfl ?_); refine goesL_ (some 33) rfl rfl Try.func18 (by kernel_rfl) rfl #[.string (⟨#[97, 98]⟩ : ByteArray)] rfl (by (try simp only [List.map_toArray, List.map_cons, List.map_nil]); first | done | rfl | (simp only [List.length_drop, List.length_take]; rfl)) ?_; (with_reducible refine (wire_Text.calls kj0 (⟨#[97, 98]⟩ : ByteArray) t141 _ A35.out).mono ?_); rintro e w40 ⟨rfl, hb⟩; refine ⟨_, rfl, ?_⟩; have n0_ := Aside0.mk (below_step (by repeat (first | (with_reducible first | exact HB.out | apply below_alloc | apply pw_below_drewN | apply below_drew1) | exact HB.out)) hb); clear HB; have HB := n0_; clear n0_; (try clear hb); (try clear hb2); (try clear hk); (try clear hi)) | ((with_reducible refine gate_dst (N := 36) rfl ?_); (try (refine gate_guard (by rfl) ?_; dsimp only)); refine Kd.R_lit (Kd.int .i64) _ 3 ?hg (N := 36) ?hd (xs := ([1, (-2)] : List Int)) (inner := [.int .i64 1, .int .i64 (-2)]) (ok := fun _ => True) (okp := fun _ => True) ?hr ?hp (fun _ hk => hk) trivial (Below.refl _ _) (Nat.le_refl _) (by simp) ?_; (case hd => rfl); (case hg => rfl); (case hr => first | (go_simp; done) | (go_simp; rfl)); (case hp => exact (Reps.one (show Kd.M (Kd.int .i64) _ _ _ 1 [.int .i64 1] from rfl) (Reps.one (show Kd.M (Kd.int .i64) _ _ _ (-2) [.int .i64 (-2)] from rfl) (Reps.none _ _)))); intro v143 w41 ho42 hb hg_ hnew_; clear hg_ hnew_; (first | rw [← Ny142.out] at ho42 | (simp only [Int.reduceToNat] at ho42; rw [← Ny142.out] at ho42)); have n0_ := Aside0.mk (Kd.R_lower ho42 (below_size (by repeat (first | (with_reducible first | exact HB.out | apply below_alloc | apply pw_below_drewN | apply below_drew1) | exact HB.out)))); have n1_ := Aside0.mk (below_step (by repeat (first | (with_reducible first | exact HB.out | apply below_alloc | apply pw_below_drewN | apply below_drew1) | exact HB.out)) hb); clear HB; have HO144 := n0_; have HB := n1_; clear n0_ n1_; clear hb ho42; obtain ⟨Ao43, co43, eo43⟩ := Kd.R_slice HO144.out; subst eo43) | (go_at_call 20; (with_reducible refine (wire_Ints.calls kj0 _ _ y142 t145 _ ?side1 ?side2 A37.out).mono ?_); (case side1 => repeat (first | exact (Kd.R_reads' HO144.out).2.2 | (with_reducible refine Kd.C_alloc ?_ _) | (with_reducible refine Kd.C_drewN ?_ _) | (with_reducible refine Kd.C_drew ?_))); (case side2 => exact (Kd.R_reads' HO144.out).2.1); rintro e w44 ⟨rfl, hb⟩; have n0_ := Aside0.mk (Kd.R_below (by (with_reducible repeat (first | apply Kd.R_alloc | apply Kd.R_drewN | apply Kd.R_drew)); exact HO144.out) hb); have n1_ := Aside0.mk (below_step (by repeat (first | (with_reducible first | exact HB.out | apply below_alloc | apply pw_below_drewN | apply below_drew1) | exact HB.out)) hb); clear HO144; clear HB; have HO144 := n0_; have HB := n1_; clear n0_ n1_; (try clear hb); (try clear hb2); (try clear hk); (try clear hi)) | ((with_reducible refine gate_dst (N := 41) rfl ?_); (try (refine gate_guard (by rfl) ?_; dsimp only)); refine Kd.R_lit Kd.string _ 9 ?hg (N := 41) ?hd (xs := ([(⟨#[]⟩ : ByteArray), (⟨#[97]⟩ : ByteArray)] : List ByteArray)) (inner := [.string (⟨#[]⟩ : ByteArray), .string (⟨#[97]⟩ : ByteArray)]) (ok := fun _ => True) (okp := fun _ => True) ?hr ?hp (fun _ hk => hk) trivial (Below.refl _ _) (Nat.le_refl _) (by simp) ?_; (case hd => rfl); (case hg => rfl); (case hr => first | (go_simp; done) | (go_simp; rfl)); (case hp => exact (Reps.one (show Kd.M Kd.string _ _ _ (⟨#[]⟩ : ByteArray) [.string (⟨#[]⟩ : ByteArray)] from rfl) (Reps.one (show Kd.M Kd.string _ _ _ (⟨#[97]⟩ : ByteArray) [.string (⟨#[97]⟩ : ByteArray)] from rfl) (Reps.none _ _)))); intro v147 w45 ho46 hb hg_ hnew_; clear hg_ hnew_; (first | rw [← Ny146.out] at ho46 | (simp only [Int.reduceToNat] at ho46; rw [← Ny146.out] at ho46)); have n0_ := Aside0.mk (Kd.R_below (by (with_reducible repeat (first | apply Kd.R_alloc | apply Kd.R_drewN | apply Kd.R_drew)); exact HO144.out) hb); have n1_ := Aside0.mk (Kd.R_lower ho46 (below_size (by repeat (first | (with_reducible first | exact HB.out | apply below_alloc | apply pw_below_drewN | apply below_drew1) | exact HB.out)))); have n2_ := Aside0.mk (below_step (by repeat (first | (with_reducible first | exact HB.out | apply below_alloc | apply pw_below_drewN | apply below_drew1) | exact HB.out)) hb); clear HO144; clear HB; have HO144 := n0_; have HO148 := n1_; have HB := n2_; clear n0_ n1_ n2_; clear hb ho46; obtain ⟨Ao47, co47, eo47⟩ := Kd.R_slice HO148.out; subst eo47) | (go_at_call 22; (with_reducible refine (wire_Texts.calls kj0 _ _ y146 t149 _ ?side1 ?side2 A39.out).mono ?_); (case side1 => repeat (first | exact (Kd.R_reads' HO148.out).2.2 | (with_reducible refine Kd.C_alloc ?_ _) | (with_reducible refine Kd.C_drewN ?_ _) | (with_reducible refine Kd.C_drew ?_))); (case side2 => exact (Kd.R_reads' HO148.out).2.1); rintro e w48 ⟨rfl, hb⟩; have n0_ := Aside0.mk (Kd.R_below (by (with_reducible repeat (first | apply Kd.R_alloc | apply Kd.R_drewN | apply Kd.R_drew)); exact HO144.out) hb); have n1_ := Aside0.mk (Kd.R_below (by (with_reducible repeat (first | apply Kd.R_alloc | apply Kd.R_drewN | apply Kd.R_drew)); exact HO148.out) hb); have n2_ := Aside0.mk (below_step (by repeat (first | (with_reducible first | exact HB.out | apply below_alloc | apply pw_below_drewN | apply below_drew1) | exact HB.out)) hb); clear HO144; clear HO148; clear HB; have HO144 := n0_; have HO148 := n1_; have HB := n2_; clear n0_ n1_ n2_; (try clear hb); (try clear hb2); (try clear hk); (try clear hi)))
            go_meet
            case rel => exact ⟨_, ((t149.toList == ([4, 0, 2, 97] : List UInt8))), (by first | rfl | (simp; done) | (simp [*]; done)), H', ⟨by have := HJ0.out; first | omega | exact Nat.le_refl _⟩, ⟨by repeat (first | (with_reducible first | exact HB.out | apply below_alloc | apply pw_below_drewN | apply below_drew1) | exact HB.out)⟩⟩
          · rw [if_neg c38] at H
            have c38b0 : (t145.toList == ([4, 2, 3] : List UInt8)) = false := beq_eq_false_iff_ne.mpr c38
            have c38b1 : (t145.toList != ([4, 2, 3] : List UInt8)) = true := bne_iff_ne.mpr c38
            have H' := Aside0.mk H
            clear H
            go_wp2_with (first | ((with_reducible refine gate_callee (f := 18) rfl ?_); refine goesL_ (some 33) rfl rfl Try.func18 (by kernel_rfl) rfl #[.string (⟨#[97, 98]⟩ : ByteArray)] rfl (by (try simp only [List.map_toArray, List.map_cons, List.map_nil]); first | done | rfl | (simp only [List.length_drop, List.length_take]; rfl)) ?_; (with_reducible refine (wire_Text.calls kj0 (⟨#[97, 98]⟩ : ByteArray) t141 _ A35.out).mono ?_); rintro e w49 ⟨rfl, hb⟩; refine ⟨_, rfl, ?_⟩; have n0_ := Aside0.mk (below_step (by repeat (first | (with_reducible first | exact HB.out | apply below_alloc | apply pw_below_drewN | apply below_drew1) | exact HB.out)) hb); clear HB; have HB := n0_; clear n0_; (try clear hb); (try clear hb2); (try clear hk); (try clear hi)) | ((with_reducible refine gate_dst (N := 36) rfl ?_); (try (refine gate_guard (by rfl) ?_; dsimp only)); refine Kd.R_lit (Kd.int .i64) _ 3 ?hg (N := 36) ?hd (xs := ([1, (-2)] : List Int)) (inner := [.int .i64 1, .int .i64 (-2)]) (ok := fun _ => True) (okp := fun _ => True) ?hr ?hp (fun _ hk => hk) trivial (Below.refl _ _) (Nat.le_refl _) (by simp) ?_; (case hd => rfl); (case hg => rfl); (case hr => first | (go_simp; done) | (go_simp; rfl)); (case hp => exact (Reps.one (show Kd.M (Kd.int .i64) _ _ _ 1 [.int .i64 1] from rfl) (Reps.one (show Kd.M (Kd.int .i64) _ _ _ (-2) [.int .i64 (-2)] from rfl) (Reps.none _ _)))); intro v143 w50 ho51 hb hg_ hnew_; clear hg_ hnew_; (first | rw [← Ny142.out] at ho51 | (simp only [Int.reduceToNat] at ho51; rw [← Ny142.out] at ho51)); have n0_ := Aside0.mk (Kd.R_lower ho51 (below_size (by repeat (first | (with_reducible first | exact HB.out | apply below_alloc | apply pw_below_drewN | apply below_drew1) | exact HB.out)))); have n1_ := Aside0.mk (below_step (by repeat (first | (with_reducible first | exact HB.out | apply below_alloc | apply pw_below_drewN | apply below_drew1) | exact HB.out)) hb); clear HB; have HO144 := n0_; have HB := n1_; clear n0_ n1_; clear hb ho51; obtain ⟨Ao52, co52, eo52⟩ := Kd.R_slice HO144.out; subst eo52) | (go_at_call 20; (with_reducible refine (wire_Ints.calls kj0 _ _ y142 t145 _ ?side1 ?side2 A37.out).mono ?_); (case side1 => repeat (first | exact (Kd.R_reads' HO144.out).2.2 | (with_reducible refine Kd.C_alloc ?_ _) | (with_reducible refine Kd.C_drewN ?_ _) | (with_reducible refine Kd.C_drew ?_))); (case side2 => exact (Kd.R_reads' HO144.out).2.1); rintro e w53 ⟨rfl, hb⟩; have n0_ := Aside0.mk (Kd.R_below (by (with_reducible repeat (first | apply Kd.R_alloc | apply Kd.R_drewN | apply Kd.R_drew)); exact HO144.out) hb); have n1_ := Aside0.mk (below_step (by repeat (first | (with_reducible first | exact HB.out | apply below_alloc | apply pw_below_drewN | apply below_drew1) | exact HB.out)) hb); clear HO144; clear HB; have HO144 := n0_; have HB := n1_; clear n0_ n1_; (try clear hb); (try clear hb2); (try clear hk); (try clear hi)))
            go_meet
            case rel => exact ⟨_, (false), (by first | rfl | (simp; done) | (simp [*]; done)), H', ⟨by have := HJ0.out; first | omega | exact Nat.le_refl _⟩, ⟨by repeat (first | (with_reducible first | exact HB.out | apply below_alloc | apply pw_below_drewN | apply below_drew1) | exact HB.out)⟩⟩
        · rw [if_neg c36] at H
          have c36b0 : (t141.toList == ([4, 97, 98] : List UInt8)) = false := beq_eq_false_iff_ne.mpr c36
          have c36b1 : (t141.toList != ([4, 97, 98] : List UInt8)) = true := bne_iff_ne.mpr c36
          (first | rw [c36b0] | (simp only [i64_w, i32_w]; rw [c36b0]) | skip)
          have H' := Aside0.mk H
          clear H
          go_wp2_with (first | ((with_reducible refine gate_callee (f := 18) rfl ?_); refine goesL_ (some 33) rfl rfl Try.func18 (by kernel_rfl) rfl #[.string (⟨#[97, 98]⟩ : ByteArray)] rfl (by (try simp only [List.map_toArray, List.map_cons, List.map_nil]); first | done | rfl | (simp only [List.length_drop, List.length_take]; rfl)) ?_; (with_reducible refine (wire_Text.calls kj0 (⟨#[97, 98]⟩ : ByteArray) t141 _ A35.out).mono ?_); rintro e w54 ⟨rfl, hb⟩; refine ⟨_, rfl, ?_⟩; have n0_ := Aside0.mk (below_step (by repeat (first | (with_reducible first | exact HB.out | apply below_alloc | apply pw_below_drewN | apply below_drew1) | exact HB.out)) hb); clear HB; have HB := n0_; clear n0_; (try clear hb); (try clear hb2); (try clear hk); (try clear hi)))
          go_meet
          case rel => exact ⟨_, (false), (by first | rfl | (simp; done) | (simp [*]; done)), H', ⟨by have := HJ0.out; first | omega | exact Nat.le_refl _⟩, ⟨by repeat (first | (with_reducible first | exact HB.out | apply below_alloc | apply pw_below_drewN | apply below_drew1) | exact HB.out)⟩⟩
      case rest =>
        clear HC34
        try clear c1
        try clear p2
        try clear c3
        try clear c3b0
        try clear c3b1
        try clear c5
        try clear c5b0
        try clear c5b1
        try clear c7
        try clear c7b0
        try clear c7b1
        try clear c9
        try clear c9b0
        try clear c9b1
        try clear c10
        try clear c11
        try clear c11b0
        try clear c11b1
        try clear c18
        try clear c36
        try clear c36b0
        try clear c36b1
        try clear c38
        try clear c38b0
        try clear c38b1
        try clear p2
        obtain ⟨kq, x2_33, rfl, HA, HJ33, HB⟩ := hcut
        cases kq with
        | zero => exact absurd HA.out (by simp [abugidalaw02_sanity.j1])
        | succ kj33 =>
          have H := HA.out
          clear HA
          simp only [abugidalaw02_sanity.j1] at H
          replace H := Option.bind_eq_some_iff.mp H
          obtain ⟨⟨t150, t151⟩, A550, H⟩ := H
          replace H : ((wire_Reader_Ints.f kj33 t150 t151).bind fun bt153 => ((wire_Reader_Left.f bt153.2.1 bt153.2.2).bind fun bt158 => ((wire_Reader_Int.f kj33 bt158.2.1 bt158.2.2).bind fun bt161 => (if (bt153.1.length : Int) = 2 then (if 0 < (bt153.1.length : Int) then (if (rd bt153.1 0) = 1 then (if 1 < (bt153.1.length : Int) then (if (rd bt153.1 1) = (-2) then (if bt158.1 = 1 then (if bt161.1 = (-3) then ((wire_Reader_Bad.f bt161.2.1 bt161.2.2).bind fun bt166 => (if bt166.1 = true then (abugidalaw02_sanity.j2 kj33 x1_0 x2_33 false) else ((wire_Reader_Left.f bt166.2.1 bt166.2.2).bind fun bt169 => (abugidalaw02_sanity.j2 kj33 x1_0 x2_33 (bt169.1 == 0))))) else (abugidalaw02_sanity.j2 kj33 x1_0 x2_33 false)) else (abugidalaw02_sanity.j2 kj33 x1_0 x2_33 false)) else (abugidalaw02_sanity.j2 kj33 x1_0 x2_33 false)) else (none)) else (abugidalaw02_sanity.j2 kj33 x1_0 x2_33 false)) else (none)) else (abugidalaw02_sanity.j2 kj33 x1_0 x2_33 false))))) = some r := H
          have A55 := Aside0.mk A550
          clear A550
          replace H := Option.bind_eq_some_iff.mp H
          obtain ⟨⟨t153, t156, t157⟩, A560, H⟩ := H
          replace H : ((wire_Reader_Left.f t156 t157).bind fun bt158 => ((wire_Reader_Int.f kj33 bt158.2.1 bt158.2.2).bind fun bt161 => (if (t153.length : Int) = 2 then (if 0 < (t153.length : Int) then (if (rd t153 0) = 1 then (if 1 < (t153.length : Int) then (if (rd t153 1) = (-2) then (if bt158.1 = 1 then (if bt161.1 = (-3) then ((wire_Reader_Bad.f bt161.2.1 bt161.2.2).bind fun bt166 => (if bt166.1 = true then (abugidalaw02_sanity.j2 kj33 x1_0 x2_33 false) else ((wire_Reader_Left.f bt166.2.1 bt166.2.2).bind fun bt169 => (abugidalaw02_sanity.j2 kj33 x1_0 x2_33 (bt169.1 == 0))))) else (abugidalaw02_sanity.j2 kj33 x1_0 x2_33 false)) else (abugidalaw02_sanity.j2 kj33 x1_0 x2_33 false)) else (abugidalaw02_sanity.j2 kj33 x1_0 x2_33 false)) else (none)) else (abugidalaw02_sanity.j2 kj33 x1_0 x2_33 false)) else (none)) else (abugidalaw02_sanity.j2 kj33 x1_0 x2_33 false)))) = some r := H
          have A56 := Aside0.mk A560
          clear A560
          replace H := Option.bind_eq_some_iff.mp H
          obtain ⟨⟨t158, t159, t160⟩, A570, H⟩ := H
          replace H : ((wire_Reader_Int.f kj33 t159 t160).bind fun bt161 => (if (t153.length : Int) = 2 then (if 0 < (t153.length : Int) then (if (rd t153 0) = 1 then (if 1 < (t153.length : Int) then (if (rd t153 1) = (-2) then (if t158 = 1 then (if bt161.1 = (-3) then ((wire_Reader_Bad.f bt161.2.1 bt161.2.2).bind fun bt166 => (if bt166.1 = true then (abugidalaw02_sanity.j2 kj33 x1_0 x2_33 false) else ((wire_Reader_Left.f bt166.2.1 bt166.2.2).bind fun bt169 => (abugidalaw02_sanity.j2 kj33 x1_0 x2_33 (bt169.1 == 0))))) else (abugidalaw02_sanity.j2 kj33 x1_0 x2_33 false)) else (abugidalaw02_sanity.j2 kj33 x1_0 x2_33 false)) else (abugidalaw02_sanity.j2 kj33 x1_0 x2_33 false)) else (none)) else (abugidalaw02_sanity.j2 kj33 x1_0 x2_33 false)) else (none)) else (abugidalaw02_sanity.j2 kj33 x1_0 x2_33 false))) = some r := H
          have A57 := Aside0.mk A570
          clear A570
          replace H := Option.bind_eq_some_iff.mp H
          obtain ⟨⟨t161, t162, t163⟩, A580, H⟩ := H
          replace H : (if (t153.length : Int) = 2 then (if 0 < (t153.length : Int) then (if (rd t153 0) = 1 then (if 1 < (t153.length : Int) then (if (rd t153 1) = (-2) then (if t158 = 1 then (if t161 = (-3) then ((wire_Reader_Bad.f t162 t163).bind fun bt166 => (if bt166.1 = true then (abugidalaw02_sanity.j2 kj33 x1_0 x2_33 false) else ((wire_Reader_Left.f bt166.2.1 bt166.2.2).bind fun bt169 => (abugidalaw02_sanity.j2 kj33 x1_0 x2_33 (bt169.1 == 0))))) else (abugidalaw02_sanity.j2 kj33 x1_0 x2_33 false)) else (abugidalaw02_sanity.j2 kj33 x1_0 x2_33 false)) else (abugidalaw02_sanity.j2 kj33 x1_0 x2_33 false)) else (none)) else (abugidalaw02_sanity.j2 kj33 x1_0 x2_33 false)) else (none)) else (abugidalaw02_sanity.j2 kj33 x1_0 x2_33 false)) = some r := H
          have A58 := Aside0.mk A580
          clear A580
          have HC59 := Aside0.mk H
          clear H
          go_upto_region 9 with (first | ((with_reducible refine gate_callee (f := 12) rfl ?_); refine goesL_ (some 45) rfl rfl Try.func12 (by kernel_rfl) rfl #[.string (⟨#[4, 2, 3, 5]⟩ : ByteArray)] rfl (by (try simp only [List.map_toArray, List.map_cons, List.map_nil]); first | done | rfl | (simp only [List.length_drop, List.length_take]; rfl)) ?_; (with_reducible refine (wire_New.calls (⟨#[4, 2, 3, 5]⟩ : ByteArray) t150 t151 w _ ?side1 A55.out).mono ?_); (case side1 => repeat (first | (with_reducible first | exact HB.out | apply below_alloc | apply pw_below_drewN | apply below_drew1) | exact HB.out)); rintro e w60 ⟨g152, rfl, hi, hb, hb2⟩; refine ⟨_, rfl, ?_⟩; have n0_ := Aside0.mk (hb); have n1_ := Aside0.mk (hi); clear HB; have HB := n0_; have HI152 := n1_; clear n0_ n1_; (try clear hb); (try clear hb2); (try clear hk); (try clear hi)) | ((with_reducible refine gate_callee (f := 29) rfl ?_); refine goesL_ (some 49) rfl rfl Try.func29 (by kernel_rfl) rfl #[.pointer (some ⟨g152, 0, none⟩)] rfl (by (try simp only [List.map_toArray, List.map_cons, List.map_nil]); first | done | rfl | (simp only [List.length_drop, List.length_take]; rfl)) ?_; (with_reducible refine (wire_Reader_Ints.calls kj33 g152 t150 t151 t153 t156 t157 w _ ?side1 ?side2 A56.out).mono ?_); (case side1 => repeat (first | (with_reducible first | exact HI152.out | apply IsS47.alloc | apply IsS47.drewN | apply IsS47.drew | apply IsS47.set_0 | apply IsS47.set_1) | exact HI152.out)); (case side2 => repeat (first | (with_reducible first | exact HB.out | apply below_alloc | apply pw_below_drewN | apply below_drew1 | refine below_set ?_ (IsS47.ge HI152.out)) | exact HB.out)); rintro e w61 ⟨v154, rfl, ho0, hi, hb, hk⟩; refine ⟨_, rfl, ?_⟩; have n0_ := Aside0.mk (Kd.R_lower ho0 (below_size (by repeat (first | (with_reducible first | exact HB.out | apply below_alloc | apply pw_below_drewN | apply below_drew1 | refine below_set ?_ (IsS47.ge HI152.out)) | exact HB.out)))); have n1_ := Aside0.mk (hb); have n2_ := Aside0.mk (hi); clear HB; clear HI152; have HO155 := n0_; have HB := n1_; have HI152 := n2_; clear n0_ n1_ n2_; (try clear hb); (try clear hb2); (try clear hk); (try clear hi); (try clear ho0)) | ((with_reducible refine gate_callee (f := 15) rfl ?_); refine goesL_ (some 51) rfl rfl Try.func15 (by kernel_rfl) rfl #[.pointer (some ⟨g152, 0, none⟩)] rfl (by (try simp only [List.map_toArray, List.map_cons, List.map_nil]); first | done | rfl | (simp only [List.length_drop, List.length_take]; rfl)) ?_; (with_reducible refine (wire_Reader_Left.calls g152 t156 t157 t158 t159 t160 w _ ?side1 ?side2 A57.out).mono ?_); (case side1 => repeat (first | (with_reducible first | exact HI152.out | apply IsS47.alloc | apply IsS47.drewN | apply IsS47.drew | apply IsS47.set_0 | apply IsS47.set_1) | exact HI152.out)); (case side2 => repeat (first | (with_reducible first | exact HB.out | apply below_alloc | apply pw_below_drewN | apply below_drew1 | refine below_set ?_ (IsS47.ge HI152.out)) | exact HB.out)); rintro e w62 ⟨rfl, hi, hb, hk⟩; refine ⟨_, rfl, ?_⟩; have n0_ := Aside0.mk (Kd.R_mono (Kd.R_keep (IsS47.apart (show IsS47 w _ g152 t156 t157 from by repeat (first | (with_reducible first | exact HI152.out | apply IsS47.alloc | apply IsS47.drewN | apply IsS47.drew | apply IsS47.set_0 | apply IsS47.set_1) | exact HI152.out)) (by (with_reducible repeat (first | apply Kd.R_alloc | apply Kd.R_drewN | apply Kd.R_drew)); exact HO155.out) (by decide)) hk (fun _ h => h.2)) (fun _ h => h.1)); have n1_ := Aside0.mk (hb); have n2_ := Aside0.mk (hi); clear HO155; clear HB; clear HI152; have HO155 := n0_; have HB := n1_; have HI152 := n2_; clear n0_ n1_ n2_; (try clear hb); (try clear hb2); (try clear hk); (try clear hi)) | ((with_reducible refine gate_callee (f := 13) rfl ?_); refine goesL_ (some 53) rfl rfl Try.func13 (by kernel_rfl) rfl #[.pointer (some ⟨g152, 0, none⟩)] rfl (by (try simp only [List.map_toArray, List.map_cons, List.map_nil]); first | done | rfl | (simp only [List.length_drop, List.length_take]; rfl)) ?_; (with_reducible refine (wire_Reader_Int.calls kj33 g152 t159 t160 t161 t162 t163 w _ ?side1 ?side2 A58.out).mono ?_); (case side1 => repeat (first | (with_reducible first | exact HI152.out | apply IsS47.alloc | apply IsS47.drewN | apply IsS47.drew | apply IsS47.set_0 | apply IsS47.set_1) | exact HI152.out)); (case side2 => repeat (first | (with_reducible first | exact HB.out | apply below_alloc | apply pw_below_drewN | apply below_drew1 | refine below_set ?_ (IsS47.ge HI152.out)) | exact HB.out)); rintro e w63 ⟨rfl, hi, hb, hk⟩; refine ⟨_, rfl, ?_⟩; have n0_ := Aside0.mk (Kd.R_mono (Kd.R_keep (IsS47.apart (show IsS47 w _ g152 t159 t160 from by repeat (first | (with_reducible first | exact HI152.out | apply IsS47.alloc | apply IsS47.drewN | apply IsS47.drew | apply IsS47.set_0 | apply IsS47.set_1) | exact HI152.out)) (by (with_reducible repeat (first | apply Kd.R_alloc | apply Kd.R_drewN | apply Kd.R_drew)); exact HO155.out) (by decide)) hk (fun _ h => h.2)) (fun _ h => h.1)); have n1_ := Aside0.mk (hb); have n2_ := Aside0.mk (hi); clear HO155; clear HB; clear HI152; have HO155 := n0_; have HB := n1_; have HI152 := n2_; clear n0_ n1_ n2_; (try clear hb); (try clear hb2); (try clear hk); (try clear hi)))
          (try simp only [Act.put, List.setIfInBounds_toArray, List.set_cons_zero, List.set_cons_succ])
          go_cut [7] (fun v7 wc => ∃ (kq : Nat) (x7_58 : Bool), v7 = .bool x7_58 ∧ Aside0 (abugidalaw02_sanity.j2 kq x1_0 x2_33 x7_58 = some r) ∧ Aside0 (kq ≤ kj33) ∧ Aside0 (Below w.heap.size w wc))
          case first =>
            have H := HC59.out
            clear HC59
            by_cases c64 : (t153.length : Int) = 2
            · rw [if_pos c64] at H
              have c64b0 : ((t153.length : Int) == 2) = true := beq_iff_eq.mpr c64
              have c64b1 : ((t153.length : Int) != 2) = false := bne_eq_false_iff_eq.mpr c64
              clear c64
              (first | rw [c64b0] | (simp only [i64_w, i32_w]; rw [c64b0]) | skip)
              by_cases c65 : 0 < (t153.length : Int)
              · rw [if_pos c65] at H
                have c65b0 : decide (0 < (t153.length : Int)) = true := decide_eq_true c65
                have c65b1 : decide (0 < t153.length) = true := decide_eq_true (by omega)
                clear c65
                by_cases c66 : (rd t153 0) = 1
                · rw [if_pos c66] at H
                  have c66b0 : ((rd t153 0) == 1) = true := beq_iff_eq.mpr c66
                  have c66b1 : ((rd t153 0) != 1) = false := bne_eq_false_iff_eq.mpr c66
                  clear c66
                  by_cases c67 : 1 < (t153.length : Int)
                  · rw [if_pos c67] at H
                    have c67b0 : decide (1 < (t153.length : Int)) = true := decide_eq_true c67
                    have c67b1 : decide (1 < t153.length) = true := decide_eq_true (by omega)
                    clear c67
                    by_cases c68 : (rd t153 1) = (-2)
                    · rw [if_pos c68] at H
                      have c68b0 : ((rd t153 1) == (-2)) = true := beq_iff_eq.mpr c68
                      have c68b1 : ((rd t153 1) != (-2)) = false := bne_eq_false_iff_eq.mpr c68
                      clear c68
                      by_cases c69 : t158 = 1
                      · rw [if_pos c69] at H
                        have c69b0 : (t158 == 1) = true := beq_iff_eq.mpr c69
                        have c69b1 : (t158 != 1) = false := bne_eq_false_iff_eq.mpr c69
                        clear c69
                        by_cases c70 : t161 = (-3)
                        · rw [if_pos c70] at H
                          have c70b0 : (t161 == (-3)) = true := beq_iff_eq.mpr c70
                          have c70b1 : (t161 != (-3)) = false := bne_eq_false_iff_eq.mpr c70
                          clear c70
                          replace H := Option.bind_eq_some_iff.mp H
                          obtain ⟨⟨t166, t167, t168⟩, A710, H⟩ := H
                          replace H : (if t166 = true then (abugidalaw02_sanity.j2 kj33 x1_0 x2_33 false) else ((wire_Reader_Left.f t167 t168).bind fun bt169 => (abugidalaw02_sanity.j2 kj33 x1_0 x2_33 (bt169.1 == 0)))) = some r := H
                          have A71 := Aside0.mk A710
                          clear A710
                          by_cases c72 : t166 = true
                          · subst c72
                            have H1 : (abugidalaw02_sanity.j2 kj33 x1_0 x2_33 false) = some r := by rw [if_pos rfl] at H; exact H
                            clear H
                            have H := H1
                            clear H1
                            have H' := Aside0.mk H
                            clear H
                            obtain ⟨Ao73, co73, eo73⟩ := Kd.R_slice HO155.out
                            subst eo73
                            have p164 : 0 ≤ (0 : Int) := (by omega)
                            have q164 : 0 < (t153.length : Int) := of_decide_eq_true (by first | (with_reducible assumption) | assumption)
                            obtain ⟨ad164, e164, hx164_0⟩ := Kd.at_int (Kd.R_reads' HO155.out).2.2 0 p164 q164
                            cases e164
                            have qi164 : (0 < t153.length) = True := eq_true (by omega)
                            (try rw [show ((0 : Int)).toNat = 0 from rfl] at hx164_0)
                            (try rw [Addr.add_zero'] at hx164_0)
                            replace p164 := eq_true p164
                            replace q164 := eq_true q164
                            have p165 : 0 ≤ (1 : Int) := (by omega)
                            have q165 : 1 < (t153.length : Int) := of_decide_eq_true (by first | (with_reducible assumption) | assumption)
                            obtain ⟨ad165, e165, hx165_0⟩ := Kd.at_int (Kd.R_reads' HO155.out).2.2 1 p165 q165
                            obtain rfl : ad164 = ad165 := (by injection e165)
                            (try simp only [show (1 : Int).toNat = 1 from rfl, Nat.reduceMul, Nat.reduceEqDiff, Go.Addr.add, ↓reduceIte] at hx165_0)
                            have qi165 : (1 < t153.length) = True := eq_true (by omega)
                            (try rw [show ((1 : Int)).toNat = 1 from rfl] at hx165_0)
                            replace p165 := eq_true p165
                            replace q165 := eq_true q165
                            go_wp2_with (first | (go_at_call 16; (with_reducible refine (wire_Reader_Bad.calls g152 t162 t163 true t167 t168 w _ ?side1 ?side2 A71.out).mono ?_); (case side1 => repeat (first | (with_reducible first | exact HI152.out | apply IsS47.alloc | apply IsS47.drewN | apply IsS47.drew | apply IsS47.set_0 | apply IsS47.set_1) | exact HI152.out)); (case side2 => repeat (first | (with_reducible first | exact HB.out | apply below_alloc | apply pw_below_drewN | apply below_drew1 | refine below_set ?_ (IsS47.ge HI152.out)) | exact HB.out)); rintro e w74 ⟨rfl, hi, hb, hk⟩; have n0_ := Aside0.mk (Kd.R_mono (Kd.R_keep (IsS47.apart (show IsS47 w _ g152 t162 t163 from by repeat (first | (with_reducible first | exact HI152.out | apply IsS47.alloc | apply IsS47.drewN | apply IsS47.drew | apply IsS47.set_0 | apply IsS47.set_1) | exact HI152.out)) (by (with_reducible repeat (first | apply Kd.R_alloc | apply Kd.R_drewN | apply Kd.R_drew)); exact HO155.out) (by decide)) hk (fun _ h => h.2)) (fun _ h => h.1)); have n1_ := Aside0.mk (hb); have n2_ := Aside0.mk (hi); clear HO155; clear HB; clear HI152; have HO155 := n0_; have HB := n1_; have HI152 := n2_; clear n0_ n1_ n2_; (try clear hb); (try clear hb2); (try clear hk); (try clear hi)))
                            go_meet
                            case rel => exact ⟨_, (false), (by first | rfl | (simp; done) | (simp [*]; done)), H', ⟨by have := HJ0.out; have := HJ33.out; first | omega | exact Nat.le_refl _⟩, ⟨by repeat (first | (with_reducible first | exact HB.out | apply below_alloc | apply pw_below_drewN | apply below_drew1 | refine below_set ?_ (IsS47.ge HI152.out)) | exact HB.out)⟩⟩
                          · replace c72 := Bool.eq_false_iff.mpr c72
                            subst c72
                            have H1 : ((wire_Reader_Left.f t167 t168).bind fun bt169 => (abugidalaw02_sanity.j2 kj33 x1_0 x2_33 (bt169.1 == 0))) = some r := by rw [if_neg (show ¬ (false = true) by decide)] at H; exact H
                            clear H
                            have H := H1
                            clear H1
                            replace H := Option.bind_eq_some_iff.mp H
                            obtain ⟨⟨t169, t170, t171⟩, A750, H⟩ := H
                            replace H : (abugidalaw02_sanity.j2 kj33 x1_0 x2_33 (t169 == 0)) = some r := H
                            have A75 := Aside0.mk A750
                            clear A750
                            have H' := Aside0.mk H
                            clear H
                            obtain ⟨Ao76, co76, eo76⟩ := Kd.R_slice HO155.out
                            subst eo76
                            have p164 : 0 ≤ (0 : Int) := (by omega)
                            have q164 : 0 < (t153.length : Int) := of_decide_eq_true (by first | (with_reducible assumption) | assumption)
                            obtain ⟨ad164, e164, hx164_0⟩ := Kd.at_int (Kd.R_reads' HO155.out).2.2 0 p164 q164
                            cases e164
                            have qi164 : (0 < t153.length) = True := eq_true (by omega)
                            (try rw [show ((0 : Int)).toNat = 0 from rfl] at hx164_0)
                            (try rw [Addr.add_zero'] at hx164_0)
                            replace p164 := eq_true p164
                            replace q164 := eq_true q164
                            have p165 : 0 ≤ (1 : Int) := (by omega)
                            have q165 : 1 < (t153.length : Int) := of_decide_eq_true (by first | (with_reducible assumption) | assumption)
                            obtain ⟨ad165, e165, hx165_0⟩ := Kd.at_int (Kd.R_reads' HO155.out).2.2 1 p165 q165
                            obtain rfl : ad164 = ad165 := (by injection e165)
                            (try simp only [show (1 : Int).toNat = 1 from rfl, Nat.reduceMul, Nat.reduceEqDiff, Go.Addr.add, ↓reduceIte] at hx165_0)
                            have qi165 : (1 < t153.length) = True := eq_true (by omega)
                            (try rw [show ((1 : Int)).toNat = 1 from rfl] at hx165_0)
                            replace p165 := eq_true p165
                            replace q165 := eq_true q165
                            go_wp2_with (first | (go_at_call 16; (with_reducible refine (wire_Reader_Bad.calls g152 t162 t163 false t167 t168 w _ ?side1 ?side2 A71.out).mono ?_); (case side1 => repeat (first | (with_reducible first | exact HI152.out | apply IsS47.alloc | apply IsS47.drewN | apply IsS47.drew | apply IsS47.set_0 | apply IsS47.set_1) | exact HI152.out)); (case side2 => repeat (first | (with_reducible first | exact HB.out | apply below_alloc | apply pw_below_drewN | apply below_drew1 | refine below_set ?_ (IsS47.ge HI152.out)) | exact HB.out)); rintro e w77 ⟨rfl, hi, hb, hk⟩; have n0_ := Aside0.mk (Kd.R_mono (Kd.R_keep (IsS47.apart (show IsS47 w _ g152 t162 t163 from by repeat (first | (with_reducible first | exact HI152.out | apply IsS47.alloc | apply IsS47.drewN | apply IsS47.drew | apply IsS47.set_0 | apply IsS47.set_1) | exact HI152.out)) (by (with_reducible repeat (first | apply Kd.R_alloc | apply Kd.R_drewN | apply Kd.R_drew)); exact HO155.out) (by decide)) hk (fun _ h => h.2)) (fun _ h => h.1)); have n1_ := Aside0.mk (hb); have n2_ := Aside0.mk (hi); clear HO155; clear HB; clear HI152; have HO155 := n0_; have HB := n1_; have HI152 := n2_; clear n0_ n1_ n2_; (try clear hb); (try clear hb2); (try clear hk); (try clear hi)) | (go_at_call 15; (with_reducible refine (wire_Reader_Left.calls g152 t167 t168 t169 t170 t171 w _ ?side1 ?side2 A75.out).mono ?_); (case side1 => repeat (first | (with_reducible first | exact HI152.out | apply IsS47.alloc | apply IsS47.drewN | apply IsS47.drew | apply IsS47.set_0 | apply IsS47.set_1) | exact HI152.out)); (case side2 => repeat (first | (with_reducible first | exact HB.out | apply below_alloc | apply pw_below_drewN | apply below_drew1 | refine below_set ?_ (IsS47.ge HI152.out)) | exact HB.out)); rintro e w78 ⟨rfl, hi, hb, hk⟩; have n0_ := Aside0.mk (Kd.R_mono (Kd.R_keep (IsS47.apart (show IsS47 w _ g152 t167 t168 from by repeat (first | (with_reducible first | exact HI152.out | apply IsS47.alloc | apply IsS47.drewN | apply IsS47.drew | apply IsS47.set_0 | apply IsS47.set_1) | exact HI152.out)) (by (with_reducible repeat (first | apply Kd.R_alloc | apply Kd.R_drewN | apply Kd.R_drew)); exact HO155.out) (by decide)) hk (fun _ h => h.2)) (fun _ h => h.1)); have n1_ := Aside0.mk (hb); have n2_ := Aside0.mk (hi); clear HO155; clear HB; clear HI152; have HO155 := n0_; have HB := n1_; have HI152 := n2_; clear n0_ n1_ n2_; (try clear hb); (try clear hb2); (try clear hk); (try clear hi)))
                            go_meet
                            case rel => exact ⟨_, ((t169 == 0)), (by first | rfl | (simp; done) | (simp [*]; done)), H', ⟨by have := HJ0.out; have := HJ33.out; first | omega | exact Nat.le_refl _⟩, ⟨by repeat (first | (with_reducible first | exact HB.out | apply below_alloc | apply pw_below_drewN | apply below_drew1 | refine below_set ?_ (IsS47.ge HI152.out)) | exact HB.out)⟩⟩
                        · rw [if_neg c70] at H
                          have c70b0 : (t161 == (-3)) = false := beq_eq_false_iff_ne.mpr c70
                          have c70b1 : (t161 != (-3)) = true := bne_iff_ne.mpr c70
                          have H' := Aside0.mk H
                          clear H
                          obtain ⟨Ao79, co79, eo79⟩ := Kd.R_slice HO155.out
                          subst eo79
                          have p164 : 0 ≤ (0 : Int) := (by omega)
                          have q164 : 0 < (t153.length : Int) := of_decide_eq_true (by first | (with_reducible assumption) | assumption)
                          obtain ⟨ad164, e164, hx164_0⟩ := Kd.at_int (Kd.R_reads' HO155.out).2.2 0 p164 q164
                          cases e164
                          have qi164 : (0 < t153.length) = True := eq_true (by omega)
                          (try rw [show ((0 : Int)).toNat = 0 from rfl] at hx164_0)
                          (try rw [Addr.add_zero'] at hx164_0)
                          replace p164 := eq_true p164
                          replace q164 := eq_true q164
                          have p165 : 0 ≤ (1 : Int) := (by omega)
                          have q165 : 1 < (t153.length : Int) := of_decide_eq_true (by first | (with_reducible assumption) | assumption)
                          obtain ⟨ad165, e165, hx165_0⟩ := Kd.at_int (Kd.R_reads' HO155.out).2.2 1 p165 q165
                          obtain rfl : ad164 = ad165 := (by injection e165)
                          (try simp only [show (1 : Int).toNat = 1 from rfl, Nat.reduceMul, Nat.reduceEqDiff, Go.Addr.add, ↓reduceIte] at hx165_0)
                          have qi165 : (1 < t153.length) = True := eq_true (by omega)
                          (try rw [show ((1 : Int)).toNat = 1 from rfl] at hx165_0)
                          replace p165 := eq_true p165
                          replace q165 := eq_true q165
                          go_wp2
                          go_meet
                          case rel => exact ⟨_, (false), (by first | rfl | (simp; done) | (simp [*]; done)), H', ⟨by have := HJ0.out; have := HJ33.out; first | omega | exact Nat.le_refl _⟩, ⟨by repeat (first | (with_reducible first | exact HB.out | apply below_alloc | apply pw_below_drewN | apply below_drew1 | refine below_set ?_ (IsS47.ge HI152.out)) | exact HB.out)⟩⟩
                      · rw [if_neg c69] at H
                        have c69b0 : (t158 == 1) = false := beq_eq_false_iff_ne.mpr c69
                        have c69b1 : (t158 != 1) = true := bne_iff_ne.mpr c69
                        have H' := Aside0.mk H
                        clear H
                        obtain ⟨Ao80, co80, eo80⟩ := Kd.R_slice HO155.out
                        subst eo80
                        have p164 : 0 ≤ (0 : Int) := (by omega)
                        have q164 : 0 < (t153.length : Int) := of_decide_eq_true (by first | (with_reducible assumption) | assumption)
                        obtain ⟨ad164, e164, hx164_0⟩ := Kd.at_int (Kd.R_reads' HO155.out).2.2 0 p164 q164
                        cases e164
                        have qi164 : (0 < t153.length) = True := eq_true (by omega)
                        (try rw [show ((0 : Int)).toNat = 0 from rfl] at hx164_0)
                        (try rw [Addr.add_zero'] at hx164_0)
                        replace p164 := eq_true p164
                        replace q164 := eq_true q164
                        have p165 : 0 ≤ (1 : Int) := (by omega)
                        have q165 : 1 < (t153.length : Int) := of_decide_eq_true (by first | (with_reducible assumption) | assumption)
                        obtain ⟨ad165, e165, hx165_0⟩ := Kd.at_int (Kd.R_reads' HO155.out).2.2 1 p165 q165
                        obtain rfl : ad164 = ad165 := (by injection e165)
                        (try simp only [show (1 : Int).toNat = 1 from rfl, Nat.reduceMul, Nat.reduceEqDiff, Go.Addr.add, ↓reduceIte] at hx165_0)
                        have qi165 : (1 < t153.length) = True := eq_true (by omega)
                        (try rw [show ((1 : Int)).toNat = 1 from rfl] at hx165_0)
                        replace p165 := eq_true p165
                        replace q165 := eq_true q165
                        go_wp2
                        go_meet
                        case rel => exact ⟨_, (false), (by first | rfl | (simp; done) | (simp [*]; done)), H', ⟨by have := HJ0.out; have := HJ33.out; first | omega | exact Nat.le_refl _⟩, ⟨by repeat (first | (with_reducible first | exact HB.out | apply below_alloc | apply pw_below_drewN | apply below_drew1 | refine below_set ?_ (IsS47.ge HI152.out)) | exact HB.out)⟩⟩
                    · rw [if_neg c68] at H
                      have c68b0 : ((rd t153 1) == (-2)) = false := beq_eq_false_iff_ne.mpr c68
                      have c68b1 : ((rd t153 1) != (-2)) = true := bne_iff_ne.mpr c68
                      have H' := Aside0.mk H
                      clear H
                      obtain ⟨Ao81, co81, eo81⟩ := Kd.R_slice HO155.out
                      subst eo81
                      have p164 : 0 ≤ (0 : Int) := (by omega)
                      have q164 : 0 < (t153.length : Int) := of_decide_eq_true (by first | (with_reducible assumption) | assumption)
                      obtain ⟨ad164, e164, hx164_0⟩ := Kd.at_int (Kd.R_reads' HO155.out).2.2 0 p164 q164
                      cases e164
                      have qi164 : (0 < t153.length) = True := eq_true (by omega)
                      (try rw [show ((0 : Int)).toNat = 0 from rfl] at hx164_0)
                      (try rw [Addr.add_zero'] at hx164_0)
                      replace p164 := eq_true p164
                      replace q164 := eq_true q164
                      have p165 : 0 ≤ (1 : Int) := (by omega)
                      have q165 : 1 < (t153.length : Int) := of_decide_eq_true (by first | (with_reducible assumption) | assumption)
                      obtain ⟨ad165, e165, hx165_0⟩ := Kd.at_int (Kd.R_reads' HO155.out).2.2 1 p165 q165
                      obtain rfl : ad164 = ad165 := (by injection e165)
                      (try simp only [show (1 : Int).toNat = 1 from rfl, Nat.reduceMul, Nat.reduceEqDiff, Go.Addr.add, ↓reduceIte] at hx165_0)
                      have qi165 : (1 < t153.length) = True := eq_true (by omega)
                      (try rw [show ((1 : Int)).toNat = 1 from rfl] at hx165_0)
                      replace p165 := eq_true p165
                      replace q165 := eq_true q165
                      go_wp2
                      go_meet
                      case rel => exact ⟨_, (false), (by first | rfl | (simp; done) | (simp [*]; done)), H', ⟨by have := HJ0.out; have := HJ33.out; first | omega | exact Nat.le_refl _⟩, ⟨by repeat (first | (with_reducible first | exact HB.out | apply below_alloc | apply pw_below_drewN | apply below_drew1 | refine below_set ?_ (IsS47.ge HI152.out)) | exact HB.out)⟩⟩
                  · rw [if_neg c67] at H
                    exact absurd H (by simp)
                · rw [if_neg c66] at H
                  have c66b0 : ((rd t153 0) == 1) = false := beq_eq_false_iff_ne.mpr c66
                  have c66b1 : ((rd t153 0) != 1) = true := bne_iff_ne.mpr c66
                  have H' := Aside0.mk H
                  clear H
                  obtain ⟨Ao82, co82, eo82⟩ := Kd.R_slice HO155.out
                  subst eo82
                  have p164 : 0 ≤ (0 : Int) := (by omega)
                  have q164 : 0 < (t153.length : Int) := of_decide_eq_true (by first | (with_reducible assumption) | assumption)
                  obtain ⟨ad164, e164, hx164_0⟩ := Kd.at_int (Kd.R_reads' HO155.out).2.2 0 p164 q164
                  cases e164
                  have qi164 : (0 < t153.length) = True := eq_true (by omega)
                  (try rw [show ((0 : Int)).toNat = 0 from rfl] at hx164_0)
                  (try rw [Addr.add_zero'] at hx164_0)
                  replace p164 := eq_true p164
                  replace q164 := eq_true q164
                  go_wp2
                  go_meet
                  case rel => exact ⟨_, (false), (by first | rfl | (simp; done) | (simp [*]; done)), H', ⟨by have := HJ0.out; have := HJ33.out; first | omega | exact Nat.le_refl _⟩, ⟨by repeat (first | (with_reducible first | exact HB.out | apply below_alloc | apply pw_below_drewN | apply below_drew1 | refine below_set ?_ (IsS47.ge HI152.out)) | exact HB.out)⟩⟩
              · rw [if_neg c65] at H
                exact absurd H (by simp)
            · rw [if_neg c64] at H
              have c64b0 : ((t153.length : Int) == 2) = false := beq_eq_false_iff_ne.mpr c64
              have c64b1 : ((t153.length : Int) != 2) = true := bne_iff_ne.mpr c64
              (first | rw [c64b0] | (simp only [i64_w, i32_w]; rw [c64b0]) | skip)
              have H' := Aside0.mk H
              clear H
              obtain ⟨Ao83, co83, eo83⟩ := Kd.R_slice HO155.out
              subst eo83
              go_wp2
              go_meet
              case rel => exact ⟨_, (false), (by first | rfl | (simp; done) | (simp [*]; done)), H', ⟨by have := HJ0.out; have := HJ33.out; first | omega | exact Nat.le_refl _⟩, ⟨by repeat (first | (with_reducible first | exact HB.out | apply below_alloc | apply pw_below_drewN | apply below_drew1 | refine below_set ?_ (IsS47.ge HI152.out)) | exact HB.out)⟩⟩
          case rest =>
            clear HC59
            try clear c1
            try clear p1
            try clear q1
            try clear hx1
            try clear qi1
            try clear c2
            try clear p2
            try clear c3
            try clear c3b0
            try clear c3b1
            try clear c5
            try clear c5b0
            try clear c5b1
            try clear c6
            try clear c7
            try clear c7b0
            try clear c7b1
            try clear c9
            try clear c9b0
            try clear c9b1
            try clear c10
            try clear c11
            try clear c11b0
            try clear c11b1
            try clear c12
            try clear c13
            try clear c15
            try clear p16
            try clear q16
            try clear hx16
            try clear qi16
            try clear c18
            try clear c29
            try clear c36
            try clear c36b0
            try clear c36b1
            try clear c38
            try clear c38b0
            try clear c38b1
            try clear c64
            try clear c64b0
            try clear c64b1
            try clear c65
            try clear c65b0
            try clear c65b1
            try clear c66
            try clear c66b0
            try clear c66b1
            try clear c67
            try clear c67b0
            try clear c67b1
            try clear c68
            try clear c68b0
            try clear c68b1
            try clear c69
            try clear c69b0
            try clear c69b1
            try clear c70
            try clear c70b0
            try clear c70b1
            try clear c72
            try clear hx164_0
            try clear hx165_0
            try clear p164
            try clear p165
            try clear p2
            try clear q164
            try clear q165
            obtain ⟨kq, x7_58, rfl, HA, HJ58, HB⟩ := hcut
            cases kq with
            | zero => exact absurd HA.out (by simp [abugidalaw02_sanity.j2])
            | succ kj58 =>
              have H := HA.out
              clear HA
              simp only [abugidalaw02_sanity.j2] at H
              replace H := Option.bind_eq_some_iff.mp H
              obtain ⟨⟨t172, t173⟩, A840, H⟩ := H
              replace H : ((wire_Reader_Text.f kj58 t172 t173).bind fun bt175 => ((wire_Reader_Int.f kj58 bt175.2.1 bt175.2.2).bind fun bt178 => (if x1_0 = true then (if x2_33 = true then (if x7_58 = true then (if bt175.1.toList = ([] : List UInt8) then (if bt178.1 = 0 then ((wire_Reader_Bad.f bt178.2.1 bt178.2.2).bind fun bt181 => (if bt181.1 = true then ((wire_Reader_Left.f bt181.2.1 bt181.2.2).bind fun bt184 => (some (bt184.1 == 0))) else (some false))) else (some false)) else (some false)) else (some false)) else (some false)) else (some false)))) = some r := H
              have A84 := Aside0.mk A840
              clear A840
              replace H := Option.bind_eq_some_iff.mp H
              obtain ⟨⟨t175, t176, t177⟩, A850, H⟩ := H
              replace H : ((wire_Reader_Int.f kj58 t176 t177).bind fun bt178 => (if x1_0 = true then (if x2_33 = true then (if x7_58 = true then (if t175.toList = ([] : List UInt8) then (if bt178.1 = 0 then ((wire_Reader_Bad.f bt178.2.1 bt178.2.2).bind fun bt181 => (if bt181.1 = true then ((wire_Reader_Left.f bt181.2.1 bt181.2.2).bind fun bt184 => (some (bt184.1 == 0))) else (some false))) else (some false)) else (some false)) else (some false)) else (some false)) else (some false))) = some r := H
              have A85 := Aside0.mk A850
              clear A850
              replace H := Option.bind_eq_some_iff.mp H
              obtain ⟨⟨t178, t179, t180⟩, A860, H⟩ := H
              replace H : (if x1_0 = true then (if x2_33 = true then (if x7_58 = true then (if t175.toList = ([] : List UInt8) then (if t178 = 0 then ((wire_Reader_Bad.f t179 t180).bind fun bt181 => (if bt181.1 = true then ((wire_Reader_Left.f bt181.2.1 bt181.2.2).bind fun bt184 => (some (bt184.1 == 0))) else (some false))) else (some false)) else (some false)) else (some false)) else (some false)) else (some false)) = some r := H
              have A86 := Aside0.mk A860
              clear A860
              by_cases c87 : x1_0 = true
              · subst c87
                have H1 : (if x2_33 = true then (if x7_58 = true then (if t175.toList = ([] : List UInt8) then (if t178 = 0 then ((wire_Reader_Bad.f t179 t180).bind fun bt181 => (if bt181.1 = true then ((wire_Reader_Left.f bt181.2.1 bt181.2.2).bind fun bt184 => (some (bt184.1 == 0))) else (some false))) else (some false)) else (some false)) else (some false)) else (some false)) = some r := by rw [if_pos rfl] at H; exact H
                clear H
                have H := H1
                clear H1
                by_cases c88 : x2_33 = true
                · subst c88
                  have H1 : (if x7_58 = true then (if t175.toList = ([] : List UInt8) then (if t178 = 0 then ((wire_Reader_Bad.f t179 t180).bind fun bt181 => (if bt181.1 = true then ((wire_Reader_Left.f bt181.2.1 bt181.2.2).bind fun bt184 => (some (bt184.1 == 0))) else (some false))) else (some false)) else (some false)) else (some false)) = some r := by rw [if_pos rfl] at H; exact H
                  clear H
                  have H := H1
                  clear H1
                  by_cases c89 : x7_58 = true
                  · subst c89
                    have H1 : (if t175.toList = ([] : List UInt8) then (if t178 = 0 then ((wire_Reader_Bad.f t179 t180).bind fun bt181 => (if bt181.1 = true then ((wire_Reader_Left.f bt181.2.1 bt181.2.2).bind fun bt184 => (some (bt184.1 == 0))) else (some false))) else (some false)) else (some false)) = some r := by rw [if_pos rfl] at H; exact H
                    clear H
                    have H := H1
                    clear H1
                    by_cases c90 : t175.toList = ([] : List UInt8)
                    · rw [if_pos c90] at H
                      have c90b0 : (t175.toList == ([] : List UInt8)) = true := beq_iff_eq.mpr c90
                      have c90b1 : (t175.toList != ([] : List UInt8)) = false := bne_eq_false_iff_eq.mpr c90
                      clear c90
                      by_cases c91 : t178 = 0
                      · rw [if_pos c91] at H
                        have c91b0 : (t178 == 0) = true := beq_iff_eq.mpr c91
                        have c91b1 : (t178 != 0) = false := bne_eq_false_iff_eq.mpr c91
                        clear c91
                        replace H := Option.bind_eq_some_iff.mp H
                        obtain ⟨⟨t181, t182, t183⟩, A920, H⟩ := H
                        replace H : (if t181 = true then ((wire_Reader_Left.f t182 t183).bind fun bt184 => (some (bt184.1 == 0))) else (some false)) = some r := H
                        have A92 := Aside0.mk A920
                        clear A920
                        by_cases c93 : t181 = true
                        · subst c93
                          have H1 : ((wire_Reader_Left.f t182 t183).bind fun bt184 => (some (bt184.1 == 0))) = some r := by rw [if_pos rfl] at H; exact H
                          clear H
                          have H := H1
                          clear H1
                          replace H := Option.bind_eq_some_iff.mp H
                          obtain ⟨⟨t184, t185, t186⟩, A940, H⟩ := H
                          replace H : (some (t184 == 0)) = some r := H
                          have A94 := Aside0.mk A940
                          clear A940
                          obtain rfl := Option.some.inj H
                          go_wp2_with (first | ((with_reducible refine gate_callee (f := 12) rfl ?_); refine goesL_ (some 87) rfl rfl Try.func12 (by kernel_rfl) rfl #[.string (⟨#[1, 0]⟩ : ByteArray)] rfl (by (try simp only [List.map_toArray, List.map_cons, List.map_nil]); first | done | rfl | (simp only [List.length_drop, List.length_take]; rfl)) ?_; (with_reducible refine (wire_New.calls (⟨#[1, 0]⟩ : ByteArray) t172 t173 w _ ?side1 A84.out).mono ?_); (case side1 => repeat (first | (with_reducible first | exact HB.out | apply below_alloc | apply pw_below_drewN | apply below_drew1) | exact HB.out)); rintro e w95 ⟨g174, rfl, hi, hb, hb2⟩; refine ⟨_, rfl, ?_⟩; have n0_ := Aside0.mk (hb); have n1_ := Aside0.mk (hi); clear HB; have HB := n0_; have HI174 := n1_; clear n0_ n1_; (try clear hb); (try clear hb2); (try clear hk); (try clear hi)) | ((with_reducible refine gate_callee (f := 26) rfl ?_); refine goesL_ (some 91) rfl rfl Try.func26 (by kernel_rfl) rfl #[.pointer (some ⟨g174, 0, none⟩)] rfl (by (try simp only [List.map_toArray, List.map_cons, List.map_nil]); first | done | rfl | (simp only [List.length_drop, List.length_take]; rfl)) ?_; (with_reducible refine (wire_Reader_Text.calls kj58 g174 t172 t173 t175 t176 t177 w _ ?side1 ?side2 A85.out).mono ?_); (case side1 => repeat (first | (with_reducible first | exact HI174.out | apply IsS47.alloc | apply IsS47.drewN | apply IsS47.drew | apply IsS47.set_0 | apply IsS47.set_1) | exact HI174.out)); (case side2 => repeat (first | (with_reducible first | exact HB.out | apply below_alloc | apply pw_below_drewN | apply below_drew1 | refine below_set ?_ (IsS47.ge HI174.out)) | exact HB.out)); rintro e w96 ⟨rfl, hi, hb, hk⟩; refine ⟨_, rfl, ?_⟩; have n0_ := Aside0.mk (hb); have n1_ := Aside0.mk (hi); clear HB; clear HI174; have HB := n0_; have HI174 := n1_; clear n0_ n1_; (try clear hb); (try clear hb2); (try clear hk); (try clear hi)) | ((with_reducible refine gate_callee (f := 13) rfl ?_); refine goesL_ (some 93) rfl rfl Try.func13 (by kernel_rfl) rfl #[.pointer (some ⟨g174, 0, none⟩)] rfl (by (try simp only [List.map_toArray, List.map_cons, List.map_nil]); first | done | rfl | (simp only [List.length_drop, List.length_take]; rfl)) ?_; (with_reducible refine (wire_Reader_Int.calls kj58 g174 t176 t177 t178 t179 t180 w _ ?side1 ?side2 A86.out).mono ?_); (case side1 => repeat (first | (with_reducible first | exact HI174.out | apply IsS47.alloc | apply IsS47.drewN | apply IsS47.drew | apply IsS47.set_0 | apply IsS47.set_1) | exact HI174.out)); (case side2 => repeat (first | (with_reducible first | exact HB.out | apply below_alloc | apply pw_below_drewN | apply below_drew1 | refine below_set ?_ (IsS47.ge HI174.out)) | exact HB.out)); rintro e w97 ⟨rfl, hi, hb, hk⟩; refine ⟨_, rfl, ?_⟩; have n0_ := Aside0.mk (hb); have n1_ := Aside0.mk (hi); clear HB; clear HI174; have HB := n0_; have HI174 := n1_; clear n0_ n1_; (try clear hb); (try clear hb2); (try clear hk); (try clear hi)) | (go_at_call 16; (with_reducible refine (wire_Reader_Bad.calls g174 t179 t180 true t182 t183 w _ ?side1 ?side2 A92.out).mono ?_); (case side1 => repeat (first | (with_reducible first | exact HI174.out | apply IsS47.alloc | apply IsS47.drewN | apply IsS47.drew | apply IsS47.set_0 | apply IsS47.set_1) | exact HI174.out)); (case side2 => repeat (first | (with_reducible first | exact HB.out | apply below_alloc | apply pw_below_drewN | apply below_drew1 | refine below_set ?_ (IsS47.ge HI174.out)) | exact HB.out)); rintro e w98 ⟨rfl, hi, hb, hk⟩; have n0_ := Aside0.mk (hb); have n1_ := Aside0.mk (hi); clear HB; clear HI174; have HB := n0_; have HI174 := n1_; clear n0_ n1_; (try clear hb); (try clear hb2); (try clear hk); (try clear hi)) | (go_at_call 15; (with_reducible refine (wire_Reader_Left.calls g174 t182 t183 t184 t185 t186 w _ ?side1 ?side2 A94.out).mono ?_); (case side1 => repeat (first | (with_reducible first | exact HI174.out | apply IsS47.alloc | apply IsS47.drewN | apply IsS47.drew | apply IsS47.set_0 | apply IsS47.set_1) | exact HI174.out)); (case side2 => repeat (first | (with_reducible first | exact HB.out | apply below_alloc | apply pw_below_drewN | apply below_drew1 | refine below_set ?_ (IsS47.ge HI174.out)) | exact HB.out)); rintro e w99 ⟨rfl, hi, hb, hk⟩; have n0_ := Aside0.mk (hb); have n1_ := Aside0.mk (hi); clear HB; clear HI174; have HB := n0_; have HI174 := n1_; clear n0_ n1_; (try clear hb); (try clear hb2); (try clear hk); (try clear hi)))
                          go_ret
                          exact ⟨by first | rfl | (simp [errW_none, errW_some] <;> rfl) | (simp [*, errW_none, errW_some] <;> rfl), by repeat (first | (with_reducible first | exact HB.out | apply below_alloc | apply pw_below_drewN | apply below_drew1 | refine below_set ?_ (IsS47.ge HI174.out)) | exact HB.out)⟩
                        · replace c93 := Bool.eq_false_iff.mpr c93
                          subst c93
                          have H1 : (some false) = some r := by rw [if_neg (show ¬ (false = true) by decide)] at H; exact H
                          clear H
                          have H := H1
                          clear H1
                          obtain rfl := Option.some.inj H
                          go_wp2_with (first | ((with_reducible refine gate_callee (f := 12) rfl ?_); refine goesL_ (some 87) rfl rfl Try.func12 (by kernel_rfl) rfl #[.string (⟨#[1, 0]⟩ : ByteArray)] rfl (by (try simp only [List.map_toArray, List.map_cons, List.map_nil]); first | done | rfl | (simp only [List.length_drop, List.length_take]; rfl)) ?_; (with_reducible refine (wire_New.calls (⟨#[1, 0]⟩ : ByteArray) t172 t173 w _ ?side1 A84.out).mono ?_); (case side1 => repeat (first | (with_reducible first | exact HB.out | apply below_alloc | apply pw_below_drewN | apply below_drew1) | exact HB.out)); rintro e w100 ⟨g174, rfl, hi, hb, hb2⟩; refine ⟨_, rfl, ?_⟩; have n0_ := Aside0.mk (hb); have n1_ := Aside0.mk (hi); clear HB; have HB := n0_; have HI174 := n1_; clear n0_ n1_; (try clear hb); (try clear hb2); (try clear hk); (try clear hi)) | ((with_reducible refine gate_callee (f := 26) rfl ?_); refine goesL_ (some 91) rfl rfl Try.func26 (by kernel_rfl) rfl #[.pointer (some ⟨g174, 0, none⟩)] rfl (by (try simp only [List.map_toArray, List.map_cons, List.map_nil]); first | done | rfl | (simp only [List.length_drop, List.length_take]; rfl)) ?_; (with_reducible refine (wire_Reader_Text.calls kj58 g174 t172 t173 t175 t176 t177 w _ ?side1 ?side2 A85.out).mono ?_); (case side1 => repeat (first | (with_reducible first | exact HI174.out | apply IsS47.alloc | apply IsS47.drewN | apply IsS47.drew | apply IsS47.set_0 | apply IsS47.set_1) | exact HI174.out)); (case side2 => repeat (first | (with_reducible first | exact HB.out | apply below_alloc | apply pw_below_drewN | apply below_drew1 | refine below_set ?_ (IsS47.ge HI174.out)) | exact HB.out)); rintro e w101 ⟨rfl, hi, hb, hk⟩; refine ⟨_, rfl, ?_⟩; have n0_ := Aside0.mk (hb); have n1_ := Aside0.mk (hi); clear HB; clear HI174; have HB := n0_; have HI174 := n1_; clear n0_ n1_; (try clear hb); (try clear hb2); (try clear hk); (try clear hi)) | ((with_reducible refine gate_callee (f := 13) rfl ?_); refine goesL_ (some 93) rfl rfl Try.func13 (by kernel_rfl) rfl #[.pointer (some ⟨g174, 0, none⟩)] rfl (by (try simp only [List.map_toArray, List.map_cons, List.map_nil]); first | done | rfl | (simp only [List.length_drop, List.length_take]; rfl)) ?_; (with_reducible refine (wire_Reader_Int.calls kj58 g174 t176 t177 t178 t179 t180 w _ ?side1 ?side2 A86.out).mono ?_); (case side1 => repeat (first | (with_reducible first | exact HI174.out | apply IsS47.alloc | apply IsS47.drewN | apply IsS47.drew | apply IsS47.set_0 | apply IsS47.set_1) | exact HI174.out)); (case side2 => repeat (first | (with_reducible first | exact HB.out | apply below_alloc | apply pw_below_drewN | apply below_drew1 | refine below_set ?_ (IsS47.ge HI174.out)) | exact HB.out)); rintro e w102 ⟨rfl, hi, hb, hk⟩; refine ⟨_, rfl, ?_⟩; have n0_ := Aside0.mk (hb); have n1_ := Aside0.mk (hi); clear HB; clear HI174; have HB := n0_; have HI174 := n1_; clear n0_ n1_; (try clear hb); (try clear hb2); (try clear hk); (try clear hi)) | (go_at_call 16; (with_reducible refine (wire_Reader_Bad.calls g174 t179 t180 false t182 t183 w _ ?side1 ?side2 A92.out).mono ?_); (case side1 => repeat (first | (with_reducible first | exact HI174.out | apply IsS47.alloc | apply IsS47.drewN | apply IsS47.drew | apply IsS47.set_0 | apply IsS47.set_1) | exact HI174.out)); (case side2 => repeat (first | (with_reducible first | exact HB.out | apply below_alloc | apply pw_below_drewN | apply below_drew1 | refine below_set ?_ (IsS47.ge HI174.out)) | exact HB.out)); rintro e w103 ⟨rfl, hi, hb, hk⟩; have n0_ := Aside0.mk (hb); have n1_ := Aside0.mk (hi); clear HB; clear HI174; have HB := n0_; have HI174 := n1_; clear n0_ n1_; (try clear hb); (try clear hb2); (try clear hk); (try clear hi)))
                          go_ret
                          exact ⟨by first | rfl | (simp [errW_none, errW_some] <;> rfl) | (simp [*, errW_none, errW_some] <;> rfl), by repeat (first | (with_reducible first | exact HB.out | apply below_alloc | apply pw_below_drewN | apply below_drew1 | refine below_set ?_ (IsS47.ge HI174.out)) | exact HB.out)⟩
                      · rw [if_neg c91] at H
                        have c91b0 : (t178 == 0) = false := beq_eq_false_iff_ne.mpr c91
                        have c91b1 : (t178 != 0) = true := bne_iff_ne.mpr c91
                        obtain rfl := Option.some.inj H
                        go_wp2_with (first | ((with_reducible refine gate_callee (f := 12) rfl ?_); refine goesL_ (some 87) rfl rfl Try.func12 (by kernel_rfl) rfl #[.string (⟨#[1, 0]⟩ : ByteArray)] rfl (by (try simp only [List.map_toArray, List.map_cons, List.map_nil]); first | done | rfl | (simp only [List.length_drop, List.length_take]; rfl)) ?_; (with_reducible refine (wire_New.calls (⟨#[1, 0]⟩ : ByteArray) t172 t173 w _ ?side1 A84.out).mono ?_); (case side1 => repeat (first | (with_reducible first | exact HB.out | apply below_alloc | apply pw_below_drewN | apply below_drew1) | exact HB.out)); rintro e w104 ⟨g174, rfl, hi, hb, hb2⟩; refine ⟨_, rfl, ?_⟩; have n0_ := Aside0.mk (hb); have n1_ := Aside0.mk (hi); clear HB; have HB := n0_; have HI174 := n1_; clear n0_ n1_; (try clear hb); (try clear hb2); (try clear hk); (try clear hi)) | ((with_reducible refine gate_callee (f := 26) rfl ?_); refine goesL_ (some 91) rfl rfl Try.func26 (by kernel_rfl) rfl #[.pointer (some ⟨g174, 0, none⟩)] rfl (by (try simp only [List.map_toArray, List.map_cons, List.map_nil]); first | done | rfl | (simp only [List.length_drop, List.length_take]; rfl)) ?_; (with_reducible refine (wire_Reader_Text.calls kj58 g174 t172 t173 t175 t176 t177 w _ ?side1 ?side2 A85.out).mono ?_); (case side1 => repeat (first | (with_reducible first | exact HI174.out | apply IsS47.alloc | apply IsS47.drewN | apply IsS47.drew | apply IsS47.set_0 | apply IsS47.set_1) | exact HI174.out)); (case side2 => repeat (first | (with_reducible first | exact HB.out | apply below_alloc | apply pw_below_drewN | apply below_drew1 | refine below_set ?_ (IsS47.ge HI174.out)) | exact HB.out)); rintro e w105 ⟨rfl, hi, hb, hk⟩; refine ⟨_, rfl, ?_⟩; have n0_ := Aside0.mk (hb); have n1_ := Aside0.mk (hi); clear HB; clear HI174; have HB := n0_; have HI174 := n1_; clear n0_ n1_; (try clear hb); (try clear hb2); (try clear hk); (try clear hi)) | ((with_reducible refine gate_callee (f := 13) rfl ?_); refine goesL_ (some 93) rfl rfl Try.func13 (by kernel_rfl) rfl #[.pointer (some ⟨g174, 0, none⟩)] rfl (by (try simp only [List.map_toArray, List.map_cons, List.map_nil]); first | done | rfl | (simp only [List.length_drop, List.length_take]; rfl)) ?_; (with_reducible refine (wire_Reader_Int.calls kj58 g174 t176 t177 t178 t179 t180 w _ ?side1 ?side2 A86.out).mono ?_); (case side1 => repeat (first | (with_reducible first | exact HI174.out | apply IsS47.alloc | apply IsS47.drewN | apply IsS47.drew | apply IsS47.set_0 | apply IsS47.set_1) | exact HI174.out)); (case side2 => repeat (first | (with_reducible first | exact HB.out | apply below_alloc | apply pw_below_drewN | apply below_drew1 | refine below_set ?_ (IsS47.ge HI174.out)) | exact HB.out)); rintro e w106 ⟨rfl, hi, hb, hk⟩; refine ⟨_, rfl, ?_⟩; have n0_ := Aside0.mk (hb); have n1_ := Aside0.mk (hi); clear HB; clear HI174; have HB := n0_; have HI174 := n1_; clear n0_ n1_; (try clear hb); (try clear hb2); (try clear hk); (try clear hi)))
                        go_ret
                        exact ⟨by first | rfl | (simp [errW_none, errW_some] <;> rfl) | (simp [*, errW_none, errW_some] <;> rfl), by repeat (first | (with_reducible first | exact HB.out | apply below_alloc | apply pw_below_drewN | apply below_drew1 | refine below_set ?_ (IsS47.ge HI174.out)) | exact HB.out)⟩
                    · rw [if_neg c90] at H
                      have c90b0 : (t175.toList == ([] : List UInt8)) = false := beq_eq_false_iff_ne.mpr c90
                      have c90b1 : (t175.toList != ([] : List UInt8)) = true := bne_iff_ne.mpr c90
                      obtain rfl := Option.some.inj H
                      go_wp2_with (first | ((with_reducible refine gate_callee (f := 12) rfl ?_); refine goesL_ (some 87) rfl rfl Try.func12 (by kernel_rfl) rfl #[.string (⟨#[1, 0]⟩ : ByteArray)] rfl (by (try simp only [List.map_toArray, List.map_cons, List.map_nil]); first | done | rfl | (simp only [List.length_drop, List.length_take]; rfl)) ?_; (with_reducible refine (wire_New.calls (⟨#[1, 0]⟩ : ByteArray) t172 t173 w _ ?side1 A84.out).mono ?_); (case side1 => repeat (first | (with_reducible first | exact HB.out | apply below_alloc | apply pw_below_drewN | apply below_drew1) | exact HB.out)); rintro e w107 ⟨g174, rfl, hi, hb, hb2⟩; refine ⟨_, rfl, ?_⟩; have n0_ := Aside0.mk (hb); have n1_ := Aside0.mk (hi); clear HB; have HB := n0_; have HI174 := n1_; clear n0_ n1_; (try clear hb); (try clear hb2); (try clear hk); (try clear hi)) | ((with_reducible refine gate_callee (f := 26) rfl ?_); refine goesL_ (some 91) rfl rfl Try.func26 (by kernel_rfl) rfl #[.pointer (some ⟨g174, 0, none⟩)] rfl (by (try simp only [List.map_toArray, List.map_cons, List.map_nil]); first | done | rfl | (simp only [List.length_drop, List.length_take]; rfl)) ?_; (with_reducible refine (wire_Reader_Text.calls kj58 g174 t172 t173 t175 t176 t177 w _ ?side1 ?side2 A85.out).mono ?_); (case side1 => repeat (first | (with_reducible first | exact HI174.out | apply IsS47.alloc | apply IsS47.drewN | apply IsS47.drew | apply IsS47.set_0 | apply IsS47.set_1) | exact HI174.out)); (case side2 => repeat (first | (with_reducible first | exact HB.out | apply below_alloc | apply pw_below_drewN | apply below_drew1 | refine below_set ?_ (IsS47.ge HI174.out)) | exact HB.out)); rintro e w108 ⟨rfl, hi, hb, hk⟩; refine ⟨_, rfl, ?_⟩; have n0_ := Aside0.mk (hb); have n1_ := Aside0.mk (hi); clear HB; clear HI174; have HB := n0_; have HI174 := n1_; clear n0_ n1_; (try clear hb); (try clear hb2); (try clear hk); (try clear hi)) | ((with_reducible refine gate_callee (f := 13) rfl ?_); refine goesL_ (some 93) rfl rfl Try.func13 (by kernel_rfl) rfl #[.pointer (some ⟨g174, 0, none⟩)] rfl (by (try simp only [List.map_toArray, List.map_cons, List.map_nil]); first | done | rfl | (simp only [List.length_drop, List.length_take]; rfl)) ?_; (with_reducible refine (wire_Reader_Int.calls kj58 g174 t176 t177 t178 t179 t180 w _ ?side1 ?side2 A86.out).mono ?_); (case side1 => repeat (first | (with_reducible first | exact HI174.out | apply IsS47.alloc | apply IsS47.drewN | apply IsS47.drew | apply IsS47.set_0 | apply IsS47.set_1) | exact HI174.out)); (case side2 => repeat (first | (with_reducible first | exact HB.out | apply below_alloc | apply pw_below_drewN | apply below_drew1 | refine below_set ?_ (IsS47.ge HI174.out)) | exact HB.out)); rintro e w109 ⟨rfl, hi, hb, hk⟩; refine ⟨_, rfl, ?_⟩; have n0_ := Aside0.mk (hb); have n1_ := Aside0.mk (hi); clear HB; clear HI174; have HB := n0_; have HI174 := n1_; clear n0_ n1_; (try clear hb); (try clear hb2); (try clear hk); (try clear hi)))
                      go_ret
                      exact ⟨by first | rfl | (simp [errW_none, errW_some] <;> rfl) | (simp [*, errW_none, errW_some] <;> rfl), by repeat (first | (with_reducible first | exact HB.out | apply below_alloc | apply pw_below_drewN | apply below_drew1 | refine below_set ?_ (IsS47.ge HI174.out)) | exact HB.out)⟩
                  · replace c89 := Bool.eq_false_iff.mpr c89
                    subst c89
                    have H1 : (some false) = some r := by rw [if_neg (show ¬ (false = true) by decide)] at H; exact H
                    clear H
                    have H := H1
                    clear H1
                    obtain rfl := Option.some.inj H
                    go_wp2_with (first | ((with_reducible refine gate_callee (f := 12) rfl ?_); refine goesL_ (some 87) rfl rfl Try.func12 (by kernel_rfl) rfl #[.string (⟨#[1, 0]⟩ : ByteArray)] rfl (by (try simp only [List.map_toArray, List.map_cons, List.map_nil]); first | done | rfl | (simp only [List.length_drop, List.length_take]; rfl)) ?_; (with_reducible refine (wire_New.calls (⟨#[1, 0]⟩ : ByteArray) t172 t173 w _ ?side1 A84.out).mono ?_); (case side1 => repeat (first | (with_reducible first | exact HB.out | apply below_alloc | apply pw_below_drewN | apply below_drew1) | exact HB.out)); rintro e w110 ⟨g174, rfl, hi, hb, hb2⟩; refine ⟨_, rfl, ?_⟩; have n0_ := Aside0.mk (hb); have n1_ := Aside0.mk (hi); clear HB; have HB := n0_; have HI174 := n1_; clear n0_ n1_; (try clear hb); (try clear hb2); (try clear hk); (try clear hi)) | ((with_reducible refine gate_callee (f := 26) rfl ?_); refine goesL_ (some 91) rfl rfl Try.func26 (by kernel_rfl) rfl #[.pointer (some ⟨g174, 0, none⟩)] rfl (by (try simp only [List.map_toArray, List.map_cons, List.map_nil]); first | done | rfl | (simp only [List.length_drop, List.length_take]; rfl)) ?_; (with_reducible refine (wire_Reader_Text.calls kj58 g174 t172 t173 t175 t176 t177 w _ ?side1 ?side2 A85.out).mono ?_); (case side1 => repeat (first | (with_reducible first | exact HI174.out | apply IsS47.alloc | apply IsS47.drewN | apply IsS47.drew | apply IsS47.set_0 | apply IsS47.set_1) | exact HI174.out)); (case side2 => repeat (first | (with_reducible first | exact HB.out | apply below_alloc | apply pw_below_drewN | apply below_drew1 | refine below_set ?_ (IsS47.ge HI174.out)) | exact HB.out)); rintro e w111 ⟨rfl, hi, hb, hk⟩; refine ⟨_, rfl, ?_⟩; have n0_ := Aside0.mk (hb); have n1_ := Aside0.mk (hi); clear HB; clear HI174; have HB := n0_; have HI174 := n1_; clear n0_ n1_; (try clear hb); (try clear hb2); (try clear hk); (try clear hi)) | ((with_reducible refine gate_callee (f := 13) rfl ?_); refine goesL_ (some 93) rfl rfl Try.func13 (by kernel_rfl) rfl #[.pointer (some ⟨g174, 0, none⟩)] rfl (by (try simp only [List.map_toArray, List.map_cons, List.map_nil]); first | done | rfl | (simp only [List.length_drop, List.length_take]; rfl)) ?_; (with_reducible refine (wire_Reader_Int.calls kj58 g174 t176 t177 t178 t179 t180 w _ ?side1 ?side2 A86.out).mono ?_); (case side1 => repeat (first | (with_reducible first | exact HI174.out | apply IsS47.alloc | apply IsS47.drewN | apply IsS47.drew | apply IsS47.set_0 | apply IsS47.set_1) | exact HI174.out)); (case side2 => repeat (first | (with_reducible first | exact HB.out | apply below_alloc | apply pw_below_drewN | apply below_drew1 | refine below_set ?_ (IsS47.ge HI174.out)) | exact HB.out)); rintro e w112 ⟨rfl, hi, hb, hk⟩; refine ⟨_, rfl, ?_⟩; have n0_ := Aside0.mk (hb); have n1_ := Aside0.mk (hi); clear HB; clear HI174; have HB := n0_; have HI174 := n1_; clear n0_ n1_; (try clear hb); (try clear hb2); (try clear hk); (try clear hi)))
                    go_ret
                    exact ⟨by first | rfl | (simp [errW_none, errW_some] <;> rfl) | (simp [*, errW_none, errW_some] <;> rfl), by repeat (first | (with_reducible first | exact HB.out | apply below_alloc | apply pw_below_drewN | apply below_drew1 | refine below_set ?_ (IsS47.ge HI174.out)) | exact HB.out)⟩
                · replace c88 := Bool.eq_false_iff.mpr c88
                  subst c88
                  have H1 : (some false) = some r := by rw [if_neg (show ¬ (false = true) by decide)] at H; exact H
                  clear H
                  have H := H1
                  clear H1
                  obtain rfl := Option.some.inj H
                  go_wp2_with (first | ((with_reducible refine gate_callee (f := 12) rfl ?_); refine goesL_ (some 87) rfl rfl Try.func12 (by kernel_rfl) rfl #[.string (⟨#[1, 0]⟩ : ByteArray)] rfl (by (try simp only [List.map_toArray, List.map_cons, List.map_nil]); first | done | rfl | (simp only [List.length_drop, List.length_take]; rfl)) ?_; (with_reducible refine (wire_New.calls (⟨#[1, 0]⟩ : ByteArray) t172 t173 w _ ?side1 A84.out).mono ?_); (case side1 => repeat (first | (with_reducible first | exact HB.out | apply below_alloc | apply pw_below_drewN | apply below_drew1) | exact HB.out)); rintro e w113 ⟨g174, rfl, hi, hb, hb2⟩; refine ⟨_, rfl, ?_⟩; have n0_ := Aside0.mk (hb); have n1_ := Aside0.mk (hi); clear HB; have HB := n0_; have HI174 := n1_; clear n0_ n1_; (try clear hb); (try clear hb2); (try clear hk); (try clear hi)) | ((with_reducible refine gate_callee (f := 26) rfl ?_); refine goesL_ (some 91) rfl rfl Try.func26 (by kernel_rfl) rfl #[.pointer (some ⟨g174, 0, none⟩)] rfl (by (try simp only [List.map_toArray, List.map_cons, List.map_nil]); first | done | rfl | (simp only [List.length_drop, List.length_take]; rfl)) ?_; (with_reducible refine (wire_Reader_Text.calls kj58 g174 t172 t173 t175 t176 t177 w _ ?side1 ?side2 A85.out).mono ?_); (case side1 => repeat (first | (with_reducible first | exact HI174.out | apply IsS47.alloc | apply IsS47.drewN | apply IsS47.drew | apply IsS47.set_0 | apply IsS47.set_1) | exact HI174.out)); (case side2 => repeat (first | (with_reducible first | exact HB.out | apply below_alloc | apply pw_below_drewN | apply below_drew1 | refine below_set ?_ (IsS47.ge HI174.out)) | exact HB.out)); rintro e w114 ⟨rfl, hi, hb, hk⟩; refine ⟨_, rfl, ?_⟩; have n0_ := Aside0.mk (hb); have n1_ := Aside0.mk (hi); clear HB; clear HI174; have HB := n0_; have HI174 := n1_; clear n0_ n1_; (try clear hb); (try clear hb2); (try clear hk); (try clear hi)) | ((with_reducible refine gate_callee (f := 13) rfl ?_); refine goesL_ (some 93) rfl rfl Try.func13 (by kernel_rfl) rfl #[.pointer (some ⟨g174, 0, none⟩)] rfl (by (try simp only [List.map_toArray, List.map_cons, List.map_nil]); first | done | rfl | (simp only [List.length_drop, List.length_take]; rfl)) ?_; (with_reducible refine (wire_Reader_Int.calls kj58 g174 t176 t177 t178 t179 t180 w _ ?side1 ?side2 A86.out).mono ?_); (case side1 => repeat (first | (with_reducible first | exact HI174.out | apply IsS47.alloc | apply IsS47.drewN | apply IsS47.drew | apply IsS47.set_0 | apply IsS47.set_1) | exact HI174.out)); (case side2 => repeat (first | (with_reducible first | exact HB.out | apply below_alloc | apply pw_below_drewN | apply below_drew1 | refine below_set ?_ (IsS47.ge HI174.out)) | exact HB.out)); rintro e w115 ⟨rfl, hi, hb, hk⟩; refine ⟨_, rfl, ?_⟩; have n0_ := Aside0.mk (hb); have n1_ := Aside0.mk (hi); clear HB; clear HI174; have HB := n0_; have HI174 := n1_; clear n0_ n1_; (try clear hb); (try clear hb2); (try clear hk); (try clear hi)))
                  go_ret
                  exact ⟨by first | rfl | (simp [errW_none, errW_some] <;> rfl) | (simp [*, errW_none, errW_some] <;> rfl), by repeat (first | (with_reducible first | exact HB.out | apply below_alloc | apply pw_below_drewN | apply below_drew1 | refine below_set ?_ (IsS47.ge HI174.out)) | exact HB.out)⟩
              · replace c87 := Bool.eq_false_iff.mpr c87
                subst c87
                have H1 : (some false) = some r := by rw [if_neg (show ¬ (false = true) by decide)] at H; exact H
                clear H
                have H := H1
                clear H1
                obtain rfl := Option.some.inj H
                go_wp2_with (first | ((with_reducible refine gate_callee (f := 12) rfl ?_); refine goesL_ (some 87) rfl rfl Try.func12 (by kernel_rfl) rfl #[.string (⟨#[1, 0]⟩ : ByteArray)] rfl (by (try simp only [List.map_toArray, List.map_cons, List.map_nil]); first | done | rfl | (simp only [List.length_drop, List.length_take]; rfl)) ?_; (with_reducible refine (wire_New.calls (⟨#[1, 0]⟩ : ByteArray) t172 t173 w _ ?side1 A84.out).mono ?_); (case side1 => repeat (first | (with_reducible first | exact HB.out | apply below_alloc | apply pw_below_drewN | apply below_drew1) | exact HB.out)); rintro e w116 ⟨g174, rfl, hi, hb, hb2⟩; refine ⟨_, rfl, ?_⟩; have n0_ := Aside0.mk (hb); have n1_ := Aside0.mk (hi); clear HB; have HB := n0_; have HI174 := n1_; clear n0_ n1_; (try clear hb); (try clear hb2); (try clear hk); (try clear hi)) | ((with_reducible refine gate_callee (f := 26) rfl ?_); refine goesL_ (some 91) rfl rfl Try.func26 (by kernel_rfl) rfl #[.pointer (some ⟨g174, 0, none⟩)] rfl (by (try simp only [List.map_toArray, List.map_cons, List.map_nil]); first | done | rfl | (simp only [List.length_drop, List.length_take]; rfl)) ?_; (with_reducible refine (wire_Reader_Text.calls kj58 g174 t172 t173 t175 t176 t177 w _ ?side1 ?side2 A85.out).mono ?_); (case side1 => repeat (first | (with_reducible first | exact HI174.out | apply IsS47.alloc | apply IsS47.drewN | apply IsS47.drew | apply IsS47.set_0 | apply IsS47.set_1) | exact HI174.out)); (case side2 => repeat (first | (with_reducible first | exact HB.out | apply below_alloc | apply pw_below_drewN | apply below_drew1 | refine below_set ?_ (IsS47.ge HI174.out)) | exact HB.out)); rintro e w117 ⟨rfl, hi, hb, hk⟩; refine ⟨_, rfl, ?_⟩; have n0_ := Aside0.mk (hb); have n1_ := Aside0.mk (hi); clear HB; clear HI174; have HB := n0_; have HI174 := n1_; clear n0_ n1_; (try clear hb); (try clear hb2); (try clear hk); (try clear hi)) | ((with_reducible refine gate_callee (f := 13) rfl ?_); refine goesL_ (some 93) rfl rfl Try.func13 (by kernel_rfl) rfl #[.pointer (some ⟨g174, 0, none⟩)] rfl (by (try simp only [List.map_toArray, List.map_cons, List.map_nil]); first | done | rfl | (simp only [List.length_drop, List.length_take]; rfl)) ?_; (with_reducible refine (wire_Reader_Int.calls kj58 g174 t176 t177 t178 t179 t180 w _ ?side1 ?side2 A86.out).mono ?_); (case side1 => repeat (first | (with_reducible first | exact HI174.out | apply IsS47.alloc | apply IsS47.drewN | apply IsS47.drew | apply IsS47.set_0 | apply IsS47.set_1) | exact HI174.out)); (case side2 => repeat (first | (with_reducible first | exact HB.out | apply below_alloc | apply pw_below_drewN | apply below_drew1 | refine below_set ?_ (IsS47.ge HI174.out)) | exact HB.out)); rintro e w118 ⟨rfl, hi, hb, hk⟩; refine ⟨_, rfl, ?_⟩; have n0_ := Aside0.mk (hb); have n1_ := Aside0.mk (hi); clear HB; clear HI174; have HB := n0_; have HI174 := n1_; clear n0_ n1_; (try clear hb); (try clear hb2); (try clear hk); (try clear hi)))
                go_ret
                exact ⟨by first | rfl | (simp [errW_none, errW_some] <;> rfl) | (simp [*, errW_none, errW_some] <;> rfl), by repeat (first | (with_reducible first | exact HB.out | apply below_alloc | apply pw_below_drewN | apply below_drew1 | refine below_set ?_ (IsS47.ge HI174.out)) | exact HB.out)⟩

/-! ### abugidaref02_code: function 37 -/
def abugidaref02_code.f (a0 : Int) : Option (Int) := if a0 ≥ 0 then (some (IntKind.u64.wrap (2 * (IntKind.u64.wrap (a0))))) else (some (IntKind.u64.wrap ((IntKind.u64.wrap (2 * (IntKind.u64.wrap (wrap64 (-(wrap64 (a0 + 1))))))) + 1)))
set_option maxHeartbeats 8000000 in
set_option maxRecDepth 100000 in
theorem abugidaref02_code.calls (a0 : Int) (r : Int) (w : World) (h : abugidaref02_code.f a0 = some r) :
    Calls Try.prog 37 #[.int .i64 a0] w fun e w' => e = .returned (.int .u64 r) ∧ Drawn0 w w' := by
  have H : (if a0 ≥ 0 then (some (IntKind.u64.wrap (2 * (IntKind.u64.wrap (a0))))) else (some (IntKind.u64.wrap ((IntKind.u64.wrap (2 * (IntKind.u64.wrap (wrap64 (-(wrap64 (a0 + 1))))))) + 1)))) = some r := h
  clear h
  by_cases c2 : a0 ≥ 0
  · rw [if_pos c2] at H
    have c2b0 : decide (0 ≤ a0) = true := decide_eq_true c2
    clear c2
    obtain rfl := Option.some.inj H
    go_enter Try.func37, Try.ntmps37
    go_wp2
    go_ret
    exact ⟨by first | rfl | (simp; done) | (simp [*]; done), by repeat (first | exact Drawn0.refl _ | apply Drawn0.step)⟩
  · rw [if_neg c2] at H
    have c2b0 : decide (0 ≤ a0) = false := decide_eq_false c2
    clear c2
    obtain rfl := Option.some.inj H
    go_enter Try.func37, Try.ntmps37
    go_wp2
    go_ret
    exact ⟨by first | rfl | (simp; done) | (simp [*]; done), by repeat (first | exact Drawn0.refl _ | apply Drawn0.step)⟩

end Go.Proofs.Ytibdgpnedlpdbaa.Pb
