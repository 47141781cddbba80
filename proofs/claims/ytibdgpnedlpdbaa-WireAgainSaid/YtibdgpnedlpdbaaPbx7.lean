-- Printed for this claim by its own gprint.py, over contracts proved by hand; not trusted: Lean checks it.
import Derived.Test.YtibdgpnedlpdbaaPbx0
import Derived.Test.YtibdgpnedlpdbaaPbx1
import Derived.Test.YtibdgpnedlpdbaaPbx2
import Derived.Test.YtibdgpnedlpdbaaPbx3
import Derived.Test.YtibdgpnedlpdbaaPbx4
import Derived.Test.YtibdgpnedlpdbaaGwB
namespace Go.Proofs.Ytibdgpnedlpdbaa.Pb
open Go.Proofs.Ytibdgpnedlpdbaa.Gw
open Go.RowKit Go.Proofs.YtibdgpnedlpdbaaW.PrintWords Go.Proofs.YtibdgpnedlpdbaaW.PrintLast Go.Proofs.YtibdgpnedlpdbaaW.PrintMore
attribute [local go_sem] max2_int min2_int max_two min_two max_three min_three max_four min_four   -- for this text's walks alone
set_option linter.unusedVariables false
set_option linter.unusedSimpArgs false

/-! ### abugidalaw02_WireAgain: function 7 -/
mutual
def abugidalaw02_WireAgain.j0 : Nat → List Int → List ByteArray → Bool → List ByteArray → List Int → ByteArray → Bool → ByteArray → Bool → Option (Bool)
  | 0, _, _, _, _, _, _, _, _, _ => none
  | k + 1, x0, x1, x5, x8, x9, x10, x49, x289000, x289001 => if x49 = true then (some false) else (abugidalaw02_WireAgain.l0 k x0 x1 x5 x8 x9 x10 0 x289000 x289001)
def abugidalaw02_WireAgain.l0 : Nat → List Int → List ByteArray → Bool → List ByteArray → List Int → ByteArray → Int → ByteArray → Bool → Option (Bool)
  | 0, _, _, _, _, _, _, _, _, _ => none
  | k + 1, x0, x1, x5, x8, x9, x10, x11, x289000, x289001 => if x11 < (x1.length : Int) then (if 0 ≤ x11 then (if x11 < (x8.length : Int) then (if (rdOf ByteArray.empty x8 x11).toList = (rdOf ByteArray.empty x1 x11).toList then (abugidalaw02_WireAgain.l0 k x0 x1 x5 x8 x9 x10 (wrap64 (x11 + 1)) x289000 x289001) else (some false)) else (none)) else (none)) else (abugidalaw02_WireAgain.l1 k x0 x5 x9 x10 0 x289000 x289001)
def abugidalaw02_WireAgain.l1 : Nat → List Int → Bool → List Int → ByteArray → Int → ByteArray → Bool → Option (Bool)
  | 0, _, _, _, _, _, _, _ => none
  | k + 1, x0, x5, x9, x10, x12, x289000, x289001 => if x12 < (x0.length : Int) then (if 0 ≤ x12 then (if x12 < (x9.length : Int) then (if (rd x9 x12) = (rd x0 x12) then (abugidalaw02_WireAgain.l1 k x0 x5 x9 x10 (wrap64 (x12 + 1)) x289000 x289001) else (some false)) else (none)) else (none)) else (if x5 = true then (if x10.toList = ([101, 110, 100] : List UInt8) then ((wire_Reader_Left.f x289000 x289001).bind fun bt306 => (if bt306.1 = 0 then ((wire_Reader_Bad.f bt306.2.1 bt306.2.2).bind fun bt309 => (some (!bt309.1))) else (some false))) else (some false)) else (some false))
end
def abugidalaw02_WireAgain.f (k : Nat) (l0 : List Int) (l1 : List ByteArray) : Option (Bool) := (abugidalaw02_sanity.f k).bind fun t278 => (if 0 ≤ (mn (l0.length : Int) 50) then (if (mn (l0.length : Int) 50) ≤ (l0.length : Int) then ((abugidalaw02_short.f k l1).bind fun t280 => ((wire_Texts.f k t280).bind fun t283 => ((wire_Ints.f k (l0.take ((mn (l0.length : Int) 50) : Int).toNat)).bind fun t284 => (if t283.size + t284.size ≤ 9223372036854775807 then ((wire_Text.f k (⟨#[101, 110, 100]⟩ : ByteArray)).bind fun t285 => (if (t283 ++ t284).size + t285.size ≤ 9223372036854775807 then ((wire_New.f ((t283 ++ t284) ++ t285)).bind fun bt286 => ((wire_Reader_Texts.f k bt286.1 bt286.2).bind fun bt289 => ((wire_Reader_Ints.f k bt289.2.1 bt289.2.2).bind fun bt294 => ((wire_Reader_Text.f k bt294.2.1 bt294.2.2).bind fun bt299 => (if (bt289.1.length : Int) = (t280.length : Int) then (abugidalaw02_WireAgain.j0 k (l0.take ((mn (l0.length : Int) 50) : Int).toNat) t280 t278 bt289.1 bt294.1 bt299.1 ((bt294.1.length : Int) != ((l0.take ((mn (l0.length : Int) 50) : Int).toNat).length : Int)) bt299.2.1 bt299.2.2) else (abugidalaw02_WireAgain.j0 k (l0.take ((mn (l0.length : Int) 50) : Int).toNat) t280 t278 bt289.1 bt294.1 bt299.1 true bt299.2.1 bt299.2.2)))))) else (none))) else (none))))) else (none)) else (none))
theorem abugidalaw02_WireAgain.mono_l : ∀ k, (∀ y0 y1 y2 y3 y4 y5 y6 y7 y8, LeO (abugidalaw02_WireAgain.j0 k y0 y1 y2 y3 y4 y5 y6 y7 y8) (abugidalaw02_WireAgain.j0 (k + 1) y0 y1 y2 y3 y4 y5 y6 y7 y8)) ∧ (∀ y0 y1 y2 y3 y4 y5 y6 y7 y8, LeO (abugidalaw02_WireAgain.l0 k y0 y1 y2 y3 y4 y5 y6 y7 y8) (abugidalaw02_WireAgain.l0 (k + 1) y0 y1 y2 y3 y4 y5 y6 y7 y8)) ∧ (∀ y0 y1 y2 y3 y4 y5 y6, LeO (abugidalaw02_WireAgain.l1 k y0 y1 y2 y3 y4 y5 y6) (abugidalaw02_WireAgain.l1 (k + 1) y0 y1 y2 y3 y4 y5 y6))
  | 0 => ⟨fun _ _ _ _ _ _ _ _ _ r h => by simp [abugidalaw02_WireAgain.j0] at h, fun _ _ _ _ _ _ _ _ _ r h => by simp [abugidalaw02_WireAgain.l0] at h, fun _ _ _ _ _ _ _ r h => by simp [abugidalaw02_WireAgain.l1] at h⟩
  | k + 1 => by
    obtain ⟨ih0, ih1, ih2⟩ := abugidalaw02_WireAgain.mono_l k
    refine ⟨?_, ?_, ?_⟩
    · intro y0 y1 y2 y3 y4 y5 y6 y7 y8
      unfold abugidalaw02_WireAgain.j0
      repeat' first
      | (with_reducible exact ih0 _ _ _ _ _ _ _ _ _)
      | (with_reducible exact ih1 _ _ _ _ _ _ _ _ _)
      | (with_reducible exact ih2 _ _ _ _ _ _ _)
      | (with_reducible exact abugidalaw02_sanity.mono _)
      | (with_reducible exact abugidalaw02_short.mono _ _)
      | (with_reducible exact wire_Ints.mono _ _)
      | (with_reducible exact wire_Reader_Ints.mono _ _ _)
      | (with_reducible exact wire_Reader_Text.mono _ _ _)
      | (with_reducible exact wire_Reader_Texts.mono _ _ _)
      | (with_reducible exact wire_Text.mono _ _)
      | (with_reducible exact wire_Texts.mono _ _)
      | (with_reducible exact LeO.refl _)
      | (with_reducible exact LeO.none _)
      | (with_reducible refine LeO.ite ?_ ?_)
      | (with_reducible refine LeO.bind ?_ (fun _ => ?_))
      | exact ih0 _ _ _ _ _ _ _ _ _
      | exact ih1 _ _ _ _ _ _ _ _ _
      | exact ih2 _ _ _ _ _ _ _
      | exact abugidalaw02_sanity.mono _
      | exact abugidalaw02_short.mono _ _
      | exact wire_Ints.mono _ _
      | exact wire_Reader_Ints.mono _ _ _
      | exact wire_Reader_Text.mono _ _ _
      | exact wire_Reader_Texts.mono _ _ _
      | exact wire_Text.mono _ _
      | exact wire_Texts.mono _ _
      | exact LeO.none _
      | refine LeO.ite ?_ ?_
      | refine LeO.bind ?_ (fun _ => ?_)
    · intro y0 y1 y2 y3 y4 y5 y6 y7 y8
      unfold abugidalaw02_WireAgain.l0
      repeat' first
      | (with_reducible exact ih0 _ _ _ _ _ _ _ _ _)
      | (with_reducible exact ih1 _ _ _ _ _ _ _ _ _)
      | (with_reducible exact ih2 _ _ _ _ _ _ _)
      | (with_reducible exact abugidalaw02_sanity.mono _)
      | (with_reducible exact abugidalaw02_short.mono _ _)
      | (with_reducible exact wire_Ints.mono _ _)
      | (with_reducible exact wire_Reader_Ints.mono _ _ _)
      | (with_reducible exact wire_Reader_Text.mono _ _ _)
      | (with_reducible exact wire_Reader_Texts.mono _ _ _)
      | (with_reducible exact wire_Text.mono _ _)
      | (with_reducible exact wire_Texts.mono _ _)
      | (with_reducible exact LeO.refl _)
      | (with_reducible exact LeO.none _)
      | (with_reducible refine LeO.ite ?_ ?_)
      | (with_reducible refine LeO.bind ?_ (fun _ => ?_))
      | exact ih0 _ _ _ _ _ _ _ _ _
      | exact ih1 _ _ _ _ _ _ _ _ _
      | exact ih2 _ _ _ _ _ _ _
      | exact abugidalaw02_sanity.mono _
      | exact abugidalaw02_short.mono _ _
      | exact wire_Ints.mono _ _
      | exact wire_Reader_Ints.mono _ _ _
      | exact wire_Reader_Text.mono _ _ _
      | exact wire_Reader_Texts.mono _ _ _
      | exact wire_Text.mono _ _
      | exact wire_Texts.mono _ _
      | exact LeO.none _
      | refine LeO.ite ?_ ?_
      | refine LeO.bind ?_ (fun _ => ?_)
    · intro y0 y1 y2 y3 y4 y5 y6
      unfold abugidalaw02_WireAgain.l1
      repeat' first
      | (with_reducible exact ih0 _ _ _ _ _ _ _ _ _)
      | (with_reducible exact ih1 _ _ _ _ _ _ _ _ _)
      | (with_reducible exact ih2 _ _ _ _ _ _ _)
      | (with_reducible exact abugidalaw02_sanity.mono _)
      | (with_reducible exact abugidalaw02_short.mono _ _)
      | (with_reducible exact wire_Ints.mono _ _)
      | (with_reducible exact wire_Reader_Ints.mono _ _ _)
      | (with_reducible exact wire_Reader_Text.mono _ _ _)
      | (with_reducible exact wire_Reader_Texts.mono _ _ _)
      | (with_reducible exact wire_Text.mono _ _)
      | (with_reducible exact wire_Texts.mono _ _)
      | (with_reducible exact LeO.refl _)
      | (with_reducible exact LeO.none _)
      | (with_reducible refine LeO.ite ?_ ?_)
      | (with_reducible refine LeO.bind ?_ (fun _ => ?_))
      | exact ih0 _ _ _ _ _ _ _ _ _
      | exact ih1 _ _ _ _ _ _ _ _ _
      | exact ih2 _ _ _ _ _ _ _
      | exact abugidalaw02_sanity.mono _
      | exact abugidalaw02_short.mono _ _
      | exact wire_Ints.mono _ _
      | exact wire_Reader_Ints.mono _ _ _
      | exact wire_Reader_Text.mono _ _ _
      | exact wire_Reader_Texts.mono _ _ _
      | exact wire_Text.mono _ _
      | exact wire_Texts.mono _ _
      | exact LeO.none _
      | refine LeO.ite ?_ ?_
      | refine LeO.bind ?_ (fun _ => ?_)
theorem abugidalaw02_WireAgain.mono : ∀ a0 a1 k, LeO (abugidalaw02_WireAgain.f k a0 a1) (abugidalaw02_WireAgain.f (k + 1) a0 a1) := by
  intro a0 a1 k
  obtain ⟨ih0, ih1, ih2⟩ := abugidalaw02_WireAgain.mono_l k
  unfold abugidalaw02_WireAgain.f
  repeat' first
      | (with_reducible exact ih0 _ _ _ _ _ _ _ _ _)
      | (with_reducible exact ih1 _ _ _ _ _ _ _ _ _)
      | (with_reducible exact ih2 _ _ _ _ _ _ _)
      | (with_reducible exact abugidalaw02_sanity.mono _)
      | (with_reducible exact abugidalaw02_short.mono _ _)
      | (with_reducible exact wire_Ints.mono _ _)
      | (with_reducible exact wire_Reader_Ints.mono _ _ _)
      | (with_reducible exact wire_Reader_Text.mono _ _ _)
      | (with_reducible exact wire_Reader_Texts.mono _ _ _)
      | (with_reducible exact wire_Text.mono _ _)
      | (with_reducible exact wire_Texts.mono _ _)
      | (with_reducible exact LeO.refl _)
      | (with_reducible exact LeO.none _)
      | (with_reducible refine LeO.ite ?_ ?_)
      | (with_reducible refine LeO.bind ?_ (fun _ => ?_))
      | exact ih0 _ _ _ _ _ _ _ _ _
      | exact ih1 _ _ _ _ _ _ _ _ _
      | exact ih2 _ _ _ _ _ _ _
      | exact abugidalaw02_sanity.mono _
      | exact abugidalaw02_short.mono _ _
      | exact wire_Ints.mono _ _
      | exact wire_Reader_Ints.mono _ _ _
      | exact wire_Reader_Text.mono _ _ _
      | exact wire_Reader_Texts.mono _ _ _
      | exact wire_Text.mono _ _
      | exact wire_Texts.mono _ _
      | exact LeO.none _
      | refine LeO.ite ?_ ?_
      | refine LeO.bind ?_ (fun _ => ?_)
set_option maxHeartbeats 8000000 in
set_option maxRecDepth 100000 in
theorem abugidalaw02_WireAgain.calls (k : Nat) (A0 : Option Addr) (c0 : Nat) (l0 : List Int) (A1 : Option Addr) (c1 : Nat) (l1 : List ByteArray) (r : Bool) (w : World) (hr0 : Kd.C (Kd.int .i64) w A0 l0.length l0) (hc0 : l0.length ≤ c0) (hr1 : Kd.C Kd.string w A1 l1.length l1) (hc1 : l1.length ≤ c1) (h : abugidalaw02_WireAgain.f k l0 l1 = some r) :
    Calls Try.prog 7 #[.slice A0 l0.length c0, .slice A1 l1.length c1] w fun e w' => e = .returned (.bool r) ∧ Below w.heap.size w w' := by
  have HR0 := Aside0.mk hr0
  have HC0 := Aside0.mk hc0
  clear hr0 hc0
  have HR1 := Aside0.mk hr1
  have HC1 := Aside0.mk hc1
  clear hr1 hc1
  have HB := Aside0.mk (Below.refl w.heap.size w)
  have H : ((abugidalaw02_sanity.f k).bind fun t278 => (if 0 ≤ (mn (l0.length : Int) 50) then (if (mn (l0.length : Int) 50) ≤ (l0.length : Int) then ((abugidalaw02_short.f k l1).bind fun t280 => ((wire_Texts.f k t280).bind fun t283 => ((wire_Ints.f k (l0.take ((mn (l0.length : Int) 50) : Int).toNat)).bind fun t284 => (if t283.size + t284.size ≤ 9223372036854775807 then ((wire_Text.f k (⟨#[101, 110, 100]⟩ : ByteArray)).bind fun t285 => (if (t283 ++ t284).size + t285.size ≤ 9223372036854775807 then ((wire_New.f ((t283 ++ t284) ++ t285)).bind fun bt286 => ((wire_Reader_Texts.f k bt286.1 bt286.2).bind fun bt289 => ((wire_Reader_Ints.f k bt289.2.1 bt289.2.2).bind fun bt294 => ((wire_Reader_Text.f k bt294.2.1 bt294.2.2).bind fun bt299 => (if (bt289.1.length : Int) = (t280.length : Int) then (abugidalaw02_WireAgain.j0 k (l0.take ((mn (l0.length : Int) 50) : Int).toNat) t280 t278 bt289.1 bt294.1 bt299.1 ((bt294.1.length : Int) != ((l0.take ((mn (l0.length : Int) 50) : Int).toNat).length : Int)) bt299.2.1 bt299.2.2) else (abugidalaw02_WireAgain.j0 k (l0.take ((mn (l0.length : Int) 50) : Int).toNat) t280 t278 bt289.1 bt294.1 bt299.1 true bt299.2.1 bt299.2.2)))))) else (none))) else (none))))) else (none)) else (none))) = some r := h
  clear h
  replace H := Option.bind_eq_some_iff.mp H
  obtain ⟨t278, A30, H⟩ := H
  replace H : (if 0 ≤ (mn (l0.length : Int) 50) then (if (mn (l0.length : Int) 50) ≤ (l0.length : Int) then ((abugidalaw02_short.f k l1).bind fun t280 => ((wire_Texts.f k t280).bind fun t283 => ((wire_Ints.f k (l0.take ((mn (l0.length : Int) 50) : Int).toNat)).bind fun t284 => (if t283.size + t284.size ≤ 9223372036854775807 then ((wire_Text.f k (⟨#[101, 110, 100]⟩ : ByteArray)).bind fun t285 => (if (t283 ++ t284).size + t285.size ≤ 9223372036854775807 then ((wire_New.f ((t283 ++ t284) ++ t285)).bind fun bt286 => ((wire_Reader_Texts.f k bt286.1 bt286.2).bind fun bt289 => ((wire_Reader_Ints.f k bt289.2.1 bt289.2.2).bind fun bt294 => ((wire_Reader_Text.f k bt294.2.1 bt294.2.2).bind fun bt299 => (if (bt289.1.length : Int) = (t280.length : Int) then (abugidalaw02_WireAgain.j0 k (l0.take ((mn (l0.length : Int) 50) : Int).toNat) t280 t278 bt289.1 bt294.1 bt299.1 ((bt294.1.length : Int) != ((l0.take ((mn (l0.length : Int) 50) : Int).toNat).length : Int)) bt299.2.1 bt299.2.2) else (abugidalaw02_WireAgain.j0 k (l0.take ((mn (l0.length : Int) 50) : Int).toNat) t280 t278 bt289.1 bt294.1 bt299.1 true bt299.2.1 bt299.2.2)))))) else (none))) else (none))))) else (none)) else (none)) = some r := H
  have A3 := Aside0.mk A30
  clear A30
  obtain ⟨ji4, hji4⟩ : ∃ j_ : Int, (mn (l0.length : Int) 50) = j_ := ⟨_, rfl⟩
  replace H : (if 0 ≤ (ji4) then (if (ji4) ≤ (l0.length : Int) then ((abugidalaw02_short.f k l1).bind fun t280 => ((wire_Texts.f k t280).bind fun t283 => ((wire_Ints.f k (l0.take ((ji4) : Int).toNat)).bind fun t284 => (if t283.size + t284.size ≤ 9223372036854775807 then ((wire_Text.f k (⟨#[101, 110, 100]⟩ : ByteArray)).bind fun t285 => (if (t283 ++ t284).size + t285.size ≤ 9223372036854775807 then ((wire_New.f ((t283 ++ t284) ++ t285)).bind fun bt286 => ((wire_Reader_Texts.f k bt286.1 bt286.2).bind fun bt289 => ((wire_Reader_Ints.f k bt289.2.1 bt289.2.2).bind fun bt294 => ((wire_Reader_Text.f k bt294.2.1 bt294.2.2).bind fun bt299 => (if (bt289.1.length : Int) = (t280.length : Int) then (abugidalaw02_WireAgain.j0 k (l0.take ((ji4) : Int).toNat) t280 t278 bt289.1 bt294.1 bt299.1 ((bt294.1.length : Int) != ((l0.take ((ji4) : Int).toNat).length : Int)) bt299.2.1 bt299.2.2) else (abugidalaw02_WireAgain.j0 k (l0.take ((ji4) : Int).toNat) t280 t278 bt289.1 bt294.1 bt299.1 true bt299.2.1 bt299.2.2)))))) else (none))) else (none))))) else (none)) else (none)) = some r := by first | (rw [hji4] at H; exact H) | (simp only [hji4] at H ⊢; exact H)
  (try rw [hji4] at A3)
  (try (have hji4h : ji4 ≤ 50 := by (rw [← hji4]; unfold mn; (repeat' split) <;> omega)))
  (try (have hji4g : ji4 ≤ 64 := by omega))
  (try (have hji4l : 0 ≤ ji4 := by (rw [← hji4]; unfold mn; (repeat' split) <;> omega)))
  (try (have hji4m : 0 ≤ ji4 := by omega))
  have hji4_ : (if 50 < (l0.length : Int) then 50 else (l0.length : Int)) = ji4 := hji4
  obtain ⟨lt_, hlt_⟩ : ∃ y_ : List Int, y_ = l0.take ((ji4) : Int).toNat := ⟨_, rfl⟩
  rw [← hlt_] at H
  replace hlt_ := Lib.hid hlt_
  by_cases c5 : 0 ≤ (ji4)
  · rw [if_pos c5] at H
    have c5b0 := eq_true c5
    have c5b1 : decide (0 ≤ (ji4)) = true := decide_eq_true c5
    clear c5
    by_cases c6 : (ji4) ≤ (l0.length : Int)
    · rw [if_pos c6] at H
      have c6b0 := eq_true c6
      have c6b1 : decide ((ji4) ≤ (l0.length : Int)) = true := decide_eq_true c6
      clear c6
      replace H := Option.bind_eq_some_iff.mp H
      obtain ⟨t280, A70, H⟩ := H
      replace H : ((wire_Texts.f k t280).bind fun t283 => ((wire_Ints.f k lt_).bind fun t284 => (if t283.size + t284.size ≤ 9223372036854775807 then ((wire_Text.f k (⟨#[101, 110, 100]⟩ : ByteArray)).bind fun t285 => (if (t283 ++ t284).size + t285.size ≤ 9223372036854775807 then ((wire_New.f ((t283 ++ t284) ++ t285)).bind fun bt286 => ((wire_Reader_Texts.f k bt286.1 bt286.2).bind fun bt289 => ((wire_Reader_Ints.f k bt289.2.1 bt289.2.2).bind fun bt294 => ((wire_Reader_Text.f k bt294.2.1 bt294.2.2).bind fun bt299 => (if (bt289.1.length : Int) = (t280.length : Int) then (abugidalaw02_WireAgain.j0 k lt_ t280 t278 bt289.1 bt294.1 bt299.1 ((bt294.1.length : Int) != (lt_.length : Int)) bt299.2.1 bt299.2.2) else (abugidalaw02_WireAgain.j0 k lt_ t280 t278 bt289.1 bt294.1 bt299.1 true bt299.2.1 bt299.2.2)))))) else (none))) else (none)))) = some r := H
      have A7 := Aside0.mk A70
      clear A70
      replace H := Option.bind_eq_some_iff.mp H
      obtain ⟨t283, A80, H⟩ := H
      replace H : ((wire_Ints.f k lt_).bind fun t284 => (if t283.size + t284.size ≤ 9223372036854775807 then ((wire_Text.f k (⟨#[101, 110, 100]⟩ : ByteArray)).bind fun t285 => (if (t283 ++ t284).size + t285.size ≤ 9223372036854775807 then ((wire_New.f ((t283 ++ t284) ++ t285)).bind fun bt286 => ((wire_Reader_Texts.f k bt286.1 bt286.2).bind fun bt289 => ((wire_Reader_Ints.f k bt289.2.1 bt289.2.2).bind fun bt294 => ((wire_Reader_Text.f k bt294.2.1 bt294.2.2).bind fun bt299 => (if (bt289.1.length : Int) = (t280.length : Int) then (abugidalaw02_WireAgain.j0 k lt_ t280 t278 bt289.1 bt294.1 bt299.1 ((bt294.1.length : Int) != (lt_.length : Int)) bt299.2.1 bt299.2.2) else (abugidalaw02_WireAgain.j0 k lt_ t280 t278 bt289.1 bt294.1 bt299.1 true bt299.2.1 bt299.2.2)))))) else (none))) else (none))) = some r := H
      have A8 := Aside0.mk A80
      clear A80
      replace H := Option.bind_eq_some_iff.mp H
      obtain ⟨t284, A90, H⟩ := H
      replace H : (if t283.size + t284.size ≤ 9223372036854775807 then ((wire_Text.f k (⟨#[101, 110, 100]⟩ : ByteArray)).bind fun t285 => (if (t283 ++ t284).size + t285.size ≤ 9223372036854775807 then ((wire_New.f ((t283 ++ t284) ++ t285)).bind fun bt286 => ((wire_Reader_Texts.f k bt286.1 bt286.2).bind fun bt289 => ((wire_Reader_Ints.f k bt289.2.1 bt289.2.2).bind fun bt294 => ((wire_Reader_Text.f k bt294.2.1 bt294.2.2).bind fun bt299 => (if (bt289.1.length : Int) = (t280.length : Int) then (abugidalaw02_WireAgain.j0 k lt_ t280 t278 bt289.1 bt294.1 bt299.1 ((bt294.1.length : Int) != (lt_.length : Int)) bt299.2.1 bt299.2.2) else (abugidalaw02_WireAgain.j0 k lt_ t280 t278 bt289.1 bt294.1 bt299.1 true bt299.2.1 bt299.2.2)))))) else (none))) else (none)) = some r := H
      have A9 := Aside0.mk A90
      clear A90
      by_cases c10 : t283.size + t284.size ≤ 9223372036854775807
      · rw [if_pos c10] at H
        have c10b0 := eq_true c10
        have c10b1 : decide (t283.size + t284.size ≤ 9223372036854775807) = true := decide_eq_true c10
        try have c10b2 : (9223372036854775807 < t283.size + t284.size) = False := eq_false (Nat.not_lt.2 c10)
        replace H := Option.bind_eq_some_iff.mp H
        obtain ⟨t285, A110, H⟩ := H
        replace H : (if (t283 ++ t284).size + t285.size ≤ 9223372036854775807 then ((wire_New.f ((t283 ++ t284) ++ t285)).bind fun bt286 => ((wire_Reader_Texts.f k bt286.1 bt286.2).bind fun bt289 => ((wire_Reader_Ints.f k bt289.2.1 bt289.2.2).bind fun bt294 => ((wire_Reader_Text.f k bt294.2.1 bt294.2.2).bind fun bt299 => (if (bt289.1.length : Int) = (t280.length : Int) then (abugidalaw02_WireAgain.j0 k lt_ t280 t278 bt289.1 bt294.1 bt299.1 ((bt294.1.length : Int) != (lt_.length : Int)) bt299.2.1 bt299.2.2) else (abugidalaw02_WireAgain.j0 k lt_ t280 t278 bt289.1 bt294.1 bt299.1 true bt299.2.1 bt299.2.2)))))) else (none)) = some r := H
        have A11 := Aside0.mk A110
        clear A110
        by_cases c12 : (t283 ++ t284).size + t285.size ≤ 9223372036854775807
        · rw [if_pos c12] at H
          have c12b0 := eq_true c12
          have c12b1 : decide ((t283 ++ t284).size + t285.size ≤ 9223372036854775807) = true := decide_eq_true c12
          try have c12b2 : (9223372036854775807 < (t283 ++ t284).size + t285.size) = False := eq_false (Nat.not_lt.2 c12)
          replace H := Option.bind_eq_some_iff.mp H
          obtain ⟨⟨t286, t287⟩, A130, H⟩ := H
          replace H : ((wire_Reader_Texts.f k t286 t287).bind fun bt289 => ((wire_Reader_Ints.f k bt289.2.1 bt289.2.2).bind fun bt294 => ((wire_Reader_Text.f k bt294.2.1 bt294.2.2).bind fun bt299 => (if (bt289.1.length : Int) = (t280.length : Int) then (abugidalaw02_WireAgain.j0 k lt_ t280 t278 bt289.1 bt294.1 bt299.1 ((bt294.1.length : Int) != (lt_.length : Int)) bt299.2.1 bt299.2.2) else (abugidalaw02_WireAgain.j0 k lt_ t280 t278 bt289.1 bt294.1 bt299.1 true bt299.2.1 bt299.2.2))))) = some r := H
          have A13 := Aside0.mk A130
          clear A130
          replace H := Option.bind_eq_some_iff.mp H
          obtain ⟨⟨t289, t292, t293⟩, A140, H⟩ := H
          replace H : ((wire_Reader_Ints.f k t292 t293).bind fun bt294 => ((wire_Reader_Text.f k bt294.2.1 bt294.2.2).bind fun bt299 => (if (t289.length : Int) = (t280.length : Int) then (abugidalaw02_WireAgain.j0 k lt_ t280 t278 t289 bt294.1 bt299.1 ((bt294.1.length : Int) != (lt_.length : Int)) bt299.2.1 bt299.2.2) else (abugidalaw02_WireAgain.j0 k lt_ t280 t278 t289 bt294.1 bt299.1 true bt299.2.1 bt299.2.2)))) = some r := H
          have A14 := Aside0.mk A140
          clear A140
          replace H := Option.bind_eq_some_iff.mp H
          obtain ⟨⟨t294, t297, t298⟩, A150, H⟩ := H
          replace H : ((wire_Reader_Text.f k t297 t298).bind fun bt299 => (if (t289.length : Int) = (t280.length : Int) then (abugidalaw02_WireAgain.j0 k lt_ t280 t278 t289 t294 bt299.1 ((t294.length : Int) != (lt_.length : Int)) bt299.2.1 bt299.2.2) else (abugidalaw02_WireAgain.j0 k lt_ t280 t278 t289 t294 bt299.1 true bt299.2.1 bt299.2.2))) = some r := H
          have A15 := Aside0.mk A150
          clear A150
          replace H := Option.bind_eq_some_iff.mp H
          obtain ⟨⟨t299, t300, t301⟩, A160, H⟩ := H
          replace H : (if (t289.length : Int) = (t280.length : Int) then (abugidalaw02_WireAgain.j0 k lt_ t280 t278 t289 t294 t299 ((t294.length : Int) != (lt_.length : Int)) t300 t301) else (abugidalaw02_WireAgain.j0 k lt_ t280 t278 t289 t294 t299 true t300 t301)) = some r := H
          have A16 := Aside0.mk A160
          clear A160
          have HC17 := Aside0.mk H
          clear H
          go_enter Try.func7, Try.ntmps7
          go_upto_region 11 with (first | (go_at_call 10; (with_reducible refine (abugidalaw02_sanity.calls k  t278 _ A3.out).mono ?_); rintro e w18 ⟨rfl, hb⟩; have n0_ := Aside0.mk (below_step (by repeat (first | (with_reducible first | exact HB.out | apply below_alloc | apply pw_below_drewN | apply below_drew1) | exact HB.out)) hb); clear HB; have HB := n0_; clear n0_; (try clear hb); (try clear hb2); (try clear hk); (try clear hi); obtain ⟨i019, hi019, _, hsz19, _⟩ := info_parts info3; obtain ⟨hcut19, hA19, hC19⟩ := print_take_of (P := Try.prog) (Value.int .i64) 0 28 3 .i64 Try.underlying28 hi019 hsz19 A0 c0 l0 (ji4) (of_decide_eq_true (by first | (with_reducible assumption) | assumption)) (of_decide_eq_true (by first | (with_reducible assumption) | assumption)) HC0.out; simp only [← hlt_.out] at hcut19 hA19 hC19; have HR279 := Aside0.mk (Kd.C_of_reads (h1 := fun _ => rfl) (hA19 _ (Kd.reads_of_C HR0.out))); have HC279 := Aside0.mk hC19; clear hA19 hC19 hi019 hsz19) | (go_at_call 17; (with_reducible refine (abugidalaw02_short.calls k _ _ l1 t280 _ ?side1 ?side2 A7.out).mono ?_); (case side1 => repeat (first | exact (Kd.C_below HR1.out HB.out) | (with_reducible refine Kd.C_alloc ?_ _) | (with_reducible refine Kd.C_drewN ?_ _) | (with_reducible refine Kd.C_drew ?_))); (case side2 => exact HC1.out); rintro e w20 ⟨v281, rfl, ho0, hb⟩; have n0_ := Aside0.mk (Kd.R_lower ho0 (below_size (by repeat (first | (with_reducible first | exact HB.out | apply below_alloc | apply pw_below_drewN | apply below_drew1) | exact HB.out)))); have n1_ := Aside0.mk (below_step (by repeat (first | (with_reducible first | exact HB.out | apply below_alloc | apply pw_below_drewN | apply below_drew1) | exact HB.out)) hb); clear HB; have HO282 := n0_; have HB := n1_; clear n0_ n1_; (try clear hb); (try clear hb2); (try clear hk); (try clear hi); (try clear ho0); obtain ⟨Ao21, co21, eo21⟩ := Kd.R_slice HO282.out; subst eo21) | (go_at_call 22; (with_reducible refine (wire_Texts.calls k _ _ t280 t283 _ ?side1 ?side2 A8.out).mono ?_); (case side1 => repeat (first | exact (Kd.R_reads' HO282.out).2.2 | (with_reducible refine Kd.C_alloc ?_ _) | (with_reducible refine Kd.C_drewN ?_ _) | (with_reducible refine Kd.C_drew ?_))); (case side2 => exact (Kd.R_reads' HO282.out).2.1); rintro e w22 ⟨rfl, hb⟩; have n0_ := Aside0.mk (Kd.R_below (by (with_reducible repeat (first | apply Kd.R_alloc | apply Kd.R_drewN | apply Kd.R_drew)); exact HO282.out) hb); have n1_ := Aside0.mk (below_step (by repeat (first | (with_reducible first | exact HB.out | apply below_alloc | apply pw_below_drewN | apply below_drew1) | exact HB.out)) hb); clear HO282; clear HB; have HO282 := n0_; have HB := n1_; clear n0_ n1_; (try clear hb); (try clear hb2); (try clear hk); (try clear hi)) | (go_at_call 20; (with_reducible refine (wire_Ints.calls k _ _ lt_ t284 _ ?side1 ?side2 A9.out).mono ?_); (case side1 => repeat (first | exact (Kd.C_below HR279.out HB.out) | (with_reducible refine Kd.C_alloc ?_ _) | (with_reducible refine Kd.C_drewN ?_ _) | (with_reducible refine Kd.C_drew ?_))); (case side2 => exact HC279.out); rintro e w23 ⟨rfl, hb⟩; have n0_ := Aside0.mk (Kd.R_below (by (with_reducible repeat (first | apply Kd.R_alloc | apply Kd.R_drewN | apply Kd.R_drew)); exact HO282.out) hb); have n1_ := Aside0.mk (below_step (by repeat (first | (with_reducible first | exact HB.out | apply below_alloc | apply pw_below_drewN | apply below_drew1) | exact HB.out)) hb); clear HO282; clear HB; have HO282 := n0_; have HB := n1_; clear n0_ n1_; (try clear hb); (try clear hb2); (try clear hk); (try clear hi)) | (go_at_call 18; (with_reducible refine (wire_Text.calls k (⟨#[101, 110, 100]⟩ : ByteArray) t285 _ A11.out).mono ?_); rintro e w24 ⟨rfl, hb⟩; have n0_ := Aside0.mk (Kd.R_below (by (with_reducible repeat (first | apply Kd.R_alloc | apply Kd.R_drewN | apply Kd.R_drew)); exact HO282.out) hb); have n1_ := Aside0.mk (below_step (by repeat (first | (with_reducible first | exact HB.out | apply below_alloc | apply pw_below_drewN | apply below_drew1) | exact HB.out)) hb); clear HO282; clear HB; have HO282 := n0_; have HB := n1_; clear n0_ n1_; (try clear hb); (try clear hb2); (try clear hk); (try clear hi)) | (go_at_call 12; (with_reducible refine (wire_New.calls ((t283 ++ t284) ++ t285) t286 t287 w _ ?side1 A13.out).mono ?_); (case side1 => repeat (first | (with_reducible first | exact HB.out | apply below_alloc | apply pw_below_drewN | apply below_drew1) | exact HB.out)); rintro e w25 ⟨g288, rfl, hi, hb, hb2⟩; have n0_ := Aside0.mk (Kd.R_below (by (with_reducible repeat (first | apply Kd.R_alloc | apply Kd.R_drewN | apply Kd.R_drew)); exact HO282.out) hb2); have n1_ := Aside0.mk (hb); have n2_ := Aside0.mk (hi); clear HO282; clear HB; have HO282 := n0_; have HB := n1_; have HI288 := n2_; clear n0_ n1_ n2_; (try clear hb); (try clear hb2); (try clear hk); (try clear hi)) | (go_at_call 32; (with_reducible refine (wire_Reader_Texts.calls k g288 t286 t287 t289 t292 t293 w _ ?side1 ?side2 A14.out).mono ?_); (case side1 => repeat (first | (with_reducible first | exact HI288.out | apply IsS47.alloc | apply IsS47.drewN | apply IsS47.drew | apply IsS47.set_0 | apply IsS47.set_1) | exact HI288.out)); (case side2 => repeat (first | (with_reducible first | exact HB.out | apply below_alloc | apply pw_below_drewN | apply below_drew1 | refine below_set ?_ (IsS47.ge HI288.out)) | exact HB.out)); rintro e w26 ⟨v290, rfl, ho0, hi, hb, hk⟩; have n0_ := Aside0.mk (Kd.R_mono (Kd.R_told (Kd.R_oldK (IsS47.apart (show IsS47 w _ g288 t286 t287 from by repeat (first | (with_reducible first | exact HI288.out | apply IsS47.alloc | apply IsS47.drewN | apply IsS47.drew | apply IsS47.set_0 | apply IsS47.set_1) | exact HI288.out)) (by (with_reducible repeat (first | apply Kd.R_alloc | apply Kd.R_drewN | apply Kd.R_drew)); exact HO282.out) (by decide)) hk) (Kd.R_base ho0)) (fun _ h_ => h_.1)); have n1_ := Aside0.mk (Kd.R_lower (Kd.R_new' ho0 (Kd.R_lt (by (with_reducible repeat (first | apply Kd.R_alloc | apply Kd.R_drewN | apply Kd.R_drew)); exact HO282.out))) (below_size (by repeat (first | (with_reducible first | exact HB.out | apply below_alloc | apply pw_below_drewN | apply below_drew1 | refine below_set ?_ (IsS47.ge HI288.out)) | exact HB.out)))); have n2_ := Aside0.mk (hb); have n3_ := Aside0.mk (hi); clear HO282; clear HB; clear HI288; have HO282 := n0_; have HO291 := n1_; have HB := n2_; have HI288 := n3_; clear n0_ n1_ n2_ n3_; (try clear hb); (try clear hb2); (try clear hk); (try clear hi); (try clear ho0)) | (go_at_call 29; (with_reducible refine (wire_Reader_Ints.calls k g288 t292 t293 t294 t297 t298 w _ ?side1 ?side2 A15.out).mono ?_); (case side1 => repeat (first | (with_reducible first | exact HI288.out | apply IsS47.alloc | apply IsS47.drewN | apply IsS47.drew | apply IsS47.set_0 | apply IsS47.set_1) | exact HI288.out)); (case side2 => repeat (first | (with_reducible first | exact HB.out | apply below_alloc | apply pw_below_drewN | apply below_drew1 | refine below_set ?_ (IsS47.ge HI288.out)) | exact HB.out)); rintro e w27 ⟨v295, rfl, ho0, hi, hb, hk⟩; have n0_ := Aside0.mk (Kd.R_mono (Kd.R_keep (IsS47.apart (show IsS47 w _ g288 t292 t293 from by repeat (first | (with_reducible first | exact HI288.out | apply IsS47.alloc | apply IsS47.drewN | apply IsS47.drew | apply IsS47.set_0 | apply IsS47.set_1) | exact HI288.out)) (by (with_reducible repeat (first | apply Kd.R_alloc | apply Kd.R_drewN | apply Kd.R_drew)); exact HO282.out) (by decide)) hk (fun _ h => h.2)) (fun _ h => h.1)); have n1_ := Aside0.mk (Kd.R_mono (Kd.R_keep (IsS47.apart (show IsS47 w _ g288 t292 t293 from by repeat (first | (with_reducible first | exact HI288.out | apply IsS47.alloc | apply IsS47.drewN | apply IsS47.drew | apply IsS47.set_0 | apply IsS47.set_1) | exact HI288.out)) (by (with_reducible repeat (first | apply Kd.R_alloc | apply Kd.R_drewN | apply Kd.R_drew)); exact HO291.out) (by decide)) hk (fun _ h => h.2)) (fun _ h => h.1)); have n2_ := Aside0.mk (Kd.R_lower ho0 (below_size (by repeat (first | (with_reducible first | exact HB.out | apply below_alloc | apply pw_below_drewN | apply below_drew1 | refine below_set ?_ (IsS47.ge HI288.out)) | exact HB.out)))); have n3_ := Aside0.mk (hb); have n4_ := Aside0.mk (hi); clear HO282; clear HO291; clear HB; clear HI288; have HO282 := n0_; have HO291 := n1_; have HO296 := n2_; have HB := n3_; have HI288 := n4_; clear n0_ n1_ n2_ n3_ n4_; (try clear hb); (try clear hb2); (try clear hk); (try clear hi); (try clear ho0)) | (go_at_call 26; (with_reducible refine (wire_Reader_Text.calls k g288 t297 t298 t299 t300 t301 w _ ?side1 ?side2 A16.out).mono ?_); (case side1 => repeat (first | (with_reducible first | exact HI288.out | apply IsS47.alloc | apply IsS47.drewN | apply IsS47.drew | apply IsS47.set_0 | apply IsS47.set_1) | exact HI288.out)); (case side2 => repeat (first | (with_reducible first | exact HB.out | apply below_alloc | apply pw_below_drewN | apply below_drew1 | refine below_set ?_ (IsS47.ge HI288.out)) | exact HB.out)); rintro e w28 ⟨rfl, hi, hb, hk⟩; have n0_ := Aside0.mk (Kd.R_mono (Kd.R_keep (IsS47.apart (show IsS47 w _ g288 t297 t298 from by repeat (first | (with_reducible first | exact HI288.out | apply IsS47.alloc | apply IsS47.drewN | apply IsS47.drew | apply IsS47.set_0 | apply IsS47.set_1) | exact HI288.out)) (by (with_reducible repeat (first | apply Kd.R_alloc | apply Kd.R_drewN | apply Kd.R_drew)); exact HO282.out) (by decide)) hk (fun _ h => h.2)) (fun _ h => h.1)); have n1_ := Aside0.mk (Kd.R_mono (Kd.R_keep (IsS47.apart (show IsS47 w _ g288 t297 t298 from by repeat (first | (with_reducible first | exact HI288.out | apply IsS47.alloc | apply IsS47.drewN | apply IsS47.drew | apply IsS47.set_0 | apply IsS47.set_1) | exact HI288.out)) (by (with_reducible repeat (first | apply Kd.R_alloc | apply Kd.R_drewN | apply Kd.R_drew)); exact HO291.out) (by decide)) hk (fun _ h => h.2)) (fun _ h => h.1)); have n2_ := Aside0.mk (Kd.R_mono (Kd.R_keep (IsS47.apart (show IsS47 w _ g288 t297 t298 from by repeat (first | (with_reducible first | exact HI288.out | apply IsS47.alloc | apply IsS47.drewN | apply IsS47.drew | apply IsS47.set_0 | apply IsS47.set_1) | exact HI288.out)) (by (with_reducible repeat (first | apply Kd.R_alloc | apply Kd.R_drewN | apply Kd.R_drew)); exact HO296.out) (by decide)) hk (fun _ h => h.2)) (fun _ h => h.1)); have n3_ := Aside0.mk (hb); have n4_ := Aside0.mk (hi); clear HO282; clear HO291; clear HO296; clear HB; clear HI288; have HO282 := n0_; have HO291 := n1_; have HO296 := n2_; have HB := n3_; have HI288 := n4_; clear n0_ n1_ n2_ n3_ n4_; (try clear hb); (try clear hb2); (try clear hk); (try clear hi)))
          repeat (go_quiet (first | (go_at_call 10; (with_reducible refine (abugidalaw02_sanity.calls k  t278 _ A3.out).mono ?_); rintro e w18 ⟨rfl, hb⟩; have n0_ := Aside0.mk (below_step (by repeat (first | (with_reducible first | exact HB.out | apply below_alloc | apply pw_below_drewN | apply below_drew1) | exact HB.out)) hb); clear HB; have HB := n0_; clear n0_; (try clear hb); (try clear hb2); (try clear hk); (try clear hi); obtain ⟨i019, hi019, _, hsz19, _⟩ := info_parts info3; obtain ⟨hcut19, hA19, hC19⟩ := print_take_of (P := Try.prog) (Value.int .i64) 0 28 3 .i64 Try.underlying28 hi019 hsz19 A0 c0 l0 (ji4) (of_decide_eq_true (by first | (with_reducible assumption) | assumption)) (of_decide_eq_true (by first | (with_reducible assumption) | assumption)) HC0.out; simp only [← hlt_.out] at hcut19 hA19 hC19; have HR279 := Aside0.mk (Kd.C_of_reads (h1 := fun _ => rfl) (hA19 _ (Kd.reads_of_C HR0.out))); have HC279 := Aside0.mk hC19; clear hA19 hC19 hi019 hsz19) | (go_at_call 17; (with_reducible refine (abugidalaw02_short.calls k _ _ l1 t280 _ ?side1 ?side2 A7.out).mono ?_); (case side1 => repeat (first | exact (Kd.C_below HR1.out HB.out) | (with_reducible refine Kd.C_alloc ?_ _) | (with_reducible refine Kd.C_drewN ?_ _) | (with_reducible refine Kd.C_drew ?_))); (case side2 => exact HC1.out); rintro e w20 ⟨v281, rfl, ho0, hb⟩; have n0_ := Aside0.mk (Kd.R_lower ho0 (below_size (by repeat (first | (with_reducible first | exact HB.out | apply below_alloc | apply pw_below_drewN | apply below_drew1) | exact HB.out)))); have n1_ := Aside0.mk (below_step (by repeat (first | (with_reducible first | exact HB.out | apply below_alloc | apply pw_below_drewN | apply below_drew1) | exact HB.out)) hb); clear HB; have HO282 := n0_; have HB := n1_; clear n0_ n1_; (try clear hb); (try clear hb2); (try clear hk); (try clear hi); (try clear ho0); obtain ⟨Ao21, co21, eo21⟩ := Kd.R_slice HO282.out; subst eo21) | (go_at_call 22; (with_reducible refine (wire_Texts.calls k _ _ t280 t283 _ ?side1 ?side2 A8.out).mono ?_); (case side1 => repeat (first | exact (Kd.R_reads' HO282.out).2.2 | (with_reducible refine Kd.C_alloc ?_ _) | (with_reducible refine Kd.C_drewN ?_ _) | (with_reducible refine Kd.C_drew ?_))); (case side2 => exact (Kd.R_reads' HO282.out).2.1); rintro e w22 ⟨rfl, hb⟩; have n0_ := Aside0.mk (Kd.R_below (by (with_reducible repeat (first | apply Kd.R_alloc | apply Kd.R_drewN | apply Kd.R_drew)); exact HO282.out) hb); have n1_ := Aside0.mk (below_step (by repeat (first | (with_reducible first | exact HB.out | apply below_alloc | apply pw_below_drewN | apply below_drew1) | exact HB.out)) hb); clear HO282; clear HB; have HO282 := n0_; have HB := n1_; clear n0_ n1_; (try clear hb); (try clear hb2); (try clear hk); (try clear hi)) | (go_at_call 20; (with_reducible refine (wire_Ints.calls k _ _ lt_ t284 _ ?side1 ?side2 A9.out).mono ?_); (case side1 => repeat (first | exact (Kd.C_below HR279.out HB.out) | (with_reducible refine Kd.C_alloc ?_ _) | (with_reducible refine Kd.C_drewN ?_ _) | (with_reducible refine Kd.C_drew ?_))); (case side2 => exact HC279.out); rintro e w23 ⟨rfl, hb⟩; have n0_ := Aside0.mk (Kd.R_below (by (with_reducible repeat (first | apply Kd.R_alloc | apply Kd.R_drewN | apply Kd.R_drew)); exact HO282.out) hb); have n1_ := Aside0.mk (below_step (by repeat (first | (with_reducible first | exact HB.out | apply below_alloc | apply pw_below_drewN | apply below_drew1) | exact HB.out)) hb); clear HO282; clear HB; have HO282 := n0_; have HB := n1_; clear n0_ n1_; (try clear hb); (try clear hb2); (try clear hk); (try clear hi)) | (go_at_call 18; (with_reducible refine (wire_Text.calls k (⟨#[101, 110, 100]⟩ : ByteArray) t285 _ A11.out).mono ?_); rintro e w24 ⟨rfl, hb⟩; have n0_ := Aside0.mk (Kd.R_below (by (with_reducible repeat (first | apply Kd.R_alloc | apply Kd.R_drewN | apply Kd.R_drew)); exact HO282.out) hb); have n1_ := Aside0.mk (below_step (by repeat (first | (with_reducible first | exact HB.out | apply below_alloc | apply pw_below_drewN | apply below_drew1) | exact HB.out)) hb); clear HO282; clear HB; have HO282 := n0_; have HB := n1_; clear n0_ n1_; (try clear hb); (try clear hb2); (try clear hk); (try clear hi)) | (go_at_call 12; (with_reducible refine (wire_New.calls ((t283 ++ t284) ++ t285) t286 t287 w _ ?side1 A13.out).mono ?_); (case side1 => repeat (first | (with_reducible first | exact HB.out | apply below_alloc | apply pw_below_drewN | apply below_drew1) | exact HB.out)); rintro e w25 ⟨g288, rfl, hi, hb, hb2⟩; have n0_ := Aside0.mk (Kd.R_below (by (with_reducible repeat (first | apply Kd.R_alloc | apply Kd.R_drewN | apply Kd.R_drew)); exact HO282.out) hb2); have n1_ := Aside0.mk (hb); have n2_ := Aside0.mk (hi); clear HO282; clear HB; have HO282 := n0_; have HB := n1_; have HI288 := n2_; clear n0_ n1_ n2_; (try clear hb); (try clear hb2); (try clear hk); (try clear hi)) | (go_at_call 32; (with_reducible refine (wire_Reader_Texts.calls k g288 t286 t287 t289 t292 t293 w _ ?side1 ?side2 A14.out).mono ?_); (case side1 => repeat (first | (with_reducible first | exact HI288.out | apply IsS47.alloc | apply IsS47.drewN | apply IsS47.drew | apply IsS47.set_0 | apply IsS47.set_1) | exact HI288.out)); (case side2 => repeat (first | (with_reducible first | exact HB.out | apply below_alloc | apply pw_below_drewN | apply below_drew1 | refine below_set ?_ (IsS47.ge HI288.out)) | exact HB.out)); rintro e w26 ⟨v290, rfl, ho0, hi, hb, hk⟩; have n0_ := Aside0.mk (Kd.R_mono (Kd.R_told (Kd.R_oldK (IsS47.apart (show IsS47 w _ g288 t286 t287 from by repeat (first | (with_reducible first | exact HI288.out | apply IsS47.alloc | apply IsS47.drewN | apply IsS47.drew | apply IsS47.set_0 | apply IsS47.set_1) | exact HI288.out)) (by (with_reducible repeat (first | apply Kd.R_alloc | apply Kd.R_drewN | apply Kd.R_drew)); exact HO282.out) (by decide)) hk) (Kd.R_base ho0)) (fun _ h_ => h_.1)); have n1_ := Aside0.mk (Kd.R_lower (Kd.R_new' ho0 (Kd.R_lt (by (with_reducible repeat (first | apply Kd.R_alloc | apply Kd.R_drewN | apply Kd.R_drew)); exact HO282.out))) (below_size (by repeat (first | (with_reducible first | exact HB.out | apply below_alloc | apply pw_below_drewN | apply below_drew1 | refine below_set ?_ (IsS47.ge HI288.out)) | exact HB.out)))); have n2_ := Aside0.mk (hb); have n3_ := Aside0.mk (hi); clear HO282; clear HB; clear HI288; have HO282 := n0_; have HO291 := n1_; have HB := n2_; have HI288 := n3_; clear n0_ n1_ n2_ n3_; (try clear hb); (try clear hb2); (try clear hk); (try clear hi); (try clear ho0)) | (go_at_call 29; (with_reducible refine (wire_Reader_Ints.calls k g288 t292 t293 t294 t297 t298 w _ ?side1 ?side2 A15.out).mono ?_); (case side1 => repeat (first | (with_reducible first | exact HI288.out | apply IsS47.alloc | apply IsS47.drewN | apply IsS47.drew | apply IsS47.set_0 | apply IsS47.set_1) | exact HI288.out)); (case side2 => repeat (first | (with_reducible first | exact HB.out | apply below_alloc | apply pw_below_drewN | apply below_drew1 | refine below_set ?_ (IsS47.ge HI288.out)) | exact HB.out)); rintro e w27 ⟨v295, rfl, ho0, hi, hb, hk⟩; have n0_ := Aside0.mk (Kd.R_mono (Kd.R_keep (IsS47.apart (show IsS47 w _ g288 t292 t293 from by repeat (first | (with_reducible first | exact HI288.out | apply IsS47.alloc | apply IsS47.drewN | apply IsS47.drew | apply IsS47.set_0 | apply IsS47.set_1) | exact HI288.out)) (by (with_reducible repeat (first | apply Kd.R_alloc | apply Kd.R_drewN | apply Kd.R_drew)); exact HO282.out) (by decide)) hk (fun _ h => h.2)) (fun _ h => h.1)); have n1_ := Aside0.mk (Kd.R_mono (Kd.R_keep (IsS47.apart (show IsS47 w _ g288 t292 t293 from by repeat (first | (with_reducible first | exact HI288.out | apply IsS47.alloc | apply IsS47.drewN | apply IsS47.drew | apply IsS47.set_0 | apply IsS47.set_1) | exact HI288.out)) (by (with_reducible repeat (first | apply Kd.R_alloc | apply Kd.R_drewN | apply Kd.R_drew)); exact HO291.out) (by decide)) hk (fun _ h => h.2)) (fun _ h => h.1)); have n2_ := Aside0.mk (Kd.R_lower ho0 (below_size (by repeat (first | (with_reducible first | exact HB.out | apply below_alloc | apply pw_below_drewN | apply below_drew1 | refine below_set ?_ (IsS47.ge HI288.out)) | exact HB.out)))); have n3_ := Aside0.mk (hb); have n4_ := Aside0.mk (hi); clear HO282; clear HO291; clear HB; clear HI288; have HO282 := n0_; have HO291 := n1_; have HO296 := n2_; have HB := n3_; have HI288 := n4_; clear n0_ n1_ n2_ n3_ n4_; (try clear hb); (try clear hb2); (try clear hk); (try clear hi); (try clear ho0)) | (go_at_call 26; (with_reducible refine (wire_Reader_Text.calls k g288 t297 t298 t299 t300 t301 w _ ?side1 ?side2 A16.out).mono ?_); (case side1 => repeat (first | (with_reducible first | exact HI288.out | apply IsS47.alloc | apply IsS47.drewN | apply IsS47.drew | apply IsS47.set_0 | apply IsS47.set_1) | exact HI288.out)); (case side2 => repeat (first | (with_reducible first | exact HB.out | apply below_alloc | apply pw_below_drewN | apply below_drew1 | refine below_set ?_ (IsS47.ge HI288.out)) | exact HB.out)); rintro e w28 ⟨rfl, hi, hb, hk⟩; have n0_ := Aside0.mk (Kd.R_mono (Kd.R_keep (IsS47.apart (show IsS47 w _ g288 t297 t298 from by repeat (first | (with_reducible first | exact HI288.out | apply IsS47.alloc | apply IsS47.drewN | apply IsS47.drew | apply IsS47.set_0 | apply IsS47.set_1) | exact HI288.out)) (by (with_reducible repeat (first | apply Kd.R_alloc | apply Kd.R_drewN | apply Kd.R_drew)); exact HO282.out) (by decide)) hk (fun _ h => h.2)) (fun _ h => h.1)); have n1_ := Aside0.mk (Kd.R_mono (Kd.R_keep (IsS47.apart (show IsS47 w _ g288 t297 t298 from by repeat (first | (with_reducible first | exact HI288.out | apply IsS47.alloc | apply IsS47.drewN | apply IsS47.drew | apply IsS47.set_0 | apply IsS47.set_1) | exact HI288.out)) (by (with_reducible repeat (first | apply Kd.R_alloc | apply Kd.R_drewN | apply Kd.R_drew)); exact HO291.out) (by decide)) hk (fun _ h => h.2)) (fun _ h => h.1)); have n2_ := Aside0.mk (Kd.R_mono (Kd.R_keep (IsS47.apart (show IsS47 w _ g288 t297 t298 from by repeat (first | (with_reducible first | exact HI288.out | apply IsS47.alloc | apply IsS47.drewN | apply IsS47.drew | apply IsS47.set_0 | apply IsS47.set_1) | exact HI288.out)) (by (with_reducible repeat (first | apply Kd.R_alloc | apply Kd.R_drewN | apply Kd.R_drew)); exact HO296.out) (by decide)) hk (fun _ h => h.2)) (fun _ h => h.1)); have n3_ := Aside0.mk (hb); have n4_ := Aside0.mk (hi); clear HO282; clear HO291; clear HO296; clear HB; clear HI288; have HO282 := n0_; have HO291 := n1_; have HO296 := n2_; have HB := n3_; have HI288 := n4_; clear n0_ n1_ n2_ n3_ n4_; (try clear hb); (try clear hb2); (try clear hk); (try clear hi))); go_upto_region 11 with (first | (go_at_call 10; (with_reducible refine (abugidalaw02_sanity.calls k  t278 _ A3.out).mono ?_); rintro e w18 ⟨rfl, hb⟩; have n0_ := Aside0.mk (below_step (by repeat (first | (with_reducible first | exact HB.out | apply below_alloc | apply pw_below_drewN | apply below_drew1) | exact HB.out)) hb); clear HB; have HB := n0_; clear n0_; (try clear hb); (try clear hb2); (try clear hk); (try clear hi); obtain ⟨i019, hi019, _, hsz19, _⟩ := info_parts info3; obtain ⟨hcut19, hA19, hC19⟩ := print_take_of (P := Try.prog) (Value.int .i64) 0 28 3 .i64 Try.underlying28 hi019 hsz19 A0 c0 l0 (ji4) (of_decide_eq_true (by first | (with_reducible assumption) | assumption)) (of_decide_eq_true (by first | (with_reducible assumption) | assumption)) HC0.out; simp only [← hlt_.out] at hcut19 hA19 hC19; have HR279 := Aside0.mk (Kd.C_of_reads (h1 := fun _ => rfl) (hA19 _ (Kd.reads_of_C HR0.out))); have HC279 := Aside0.mk hC19; clear hA19 hC19 hi019 hsz19) | (go_at_call 17; (with_reducible refine (abugidalaw02_short.calls k _ _ l1 t280 _ ?side1 ?side2 A7.out).mono ?_); (case side1 => repeat (first | exact (Kd.C_below HR1.out HB.out) | (with_reducible refine Kd.C_alloc ?_ _) | (with_reducible refine Kd.C_drewN ?_ _) | (with_reducible refine Kd.C_drew ?_))); (case side2 => exact HC1.out); rintro e w20 ⟨v281, rfl, ho0, hb⟩; have n0_ := Aside0.mk (Kd.R_lower ho0 (below_size (by repeat (first | (with_reducible first | exact HB.out | apply below_alloc | apply pw_below_drewN | apply below_drew1) | exact HB.out)))); have n1_ := Aside0.mk (below_step (by repeat (first | (with_reducible first | exact HB.out | apply below_alloc | apply pw_below_drewN | apply below_drew1) | exact HB.out)) hb); clear HB; have HO282 := n0_; have HB := n1_; clear n0_ n1_; (try clear hb); (try clear hb2); (try clear hk); (try clear hi); (try clear ho0); obtain ⟨Ao21, co21, eo21⟩ := Kd.R_slice HO282.out; subst eo21) | (go_at_call 22; (with_reducible refine (wire_Texts.calls k _ _ t280 t283 _ ?side1 ?side2 A8.out).mono ?_); (case side1 => repeat (first | exact (Kd.R_reads' HO282.out).2.2 | (with_reducible refine Kd.C_alloc ?_ _) | (with_reducible refine Kd.C_drewN ?_ _) | (with_reducible refine Kd.C_drew ?_))); (case side2 => exact (Kd.R_reads' HO282.out).2.1); rintro e w22 ⟨rfl, hb⟩; have n0_ := Aside0.mk (Kd.R_below (by (with_reducible repeat (first | apply Kd.R_alloc | apply Kd.R_drewN | apply Kd.R_drew)); exact HO282.out) hb); have n1_ := Aside0.mk (below_step (by repeat (first | (with_reducible first | exact HB.out | apply below_alloc | apply pw_below_drewN | apply below_drew1) | exact HB.out)) hb); clear HO282; clear HB; have HO282 := n0_; have HB := n1_; clear n0_ n1_; (try clear hb); (try clear hb2); (try clear hk); (try clear hi)) | (go_at_call 20; (with_reducible refine (wire_Ints.calls k _ _ lt_ t284 _ ?side1 ?side2 A9.out).mono ?_); (case side1 => repeat (first | exact (Kd.C_below HR279.out HB.out) | (with_reducible refine Kd.C_alloc ?_ _) | (with_reducible refine Kd.C_drewN ?_ _) | (with_reducible refine Kd.C_drew ?_))); (case side2 => exact HC279.out); rintro e w23 ⟨rfl, hb⟩; have n0_ := Aside0.mk (Kd.R_below (by (with_reducible repeat (first | apply Kd.R_alloc | apply Kd.R_drewN | apply Kd.R_drew)); exact HO282.out) hb); have n1_ := Aside0.mk (below_step (by repeat (first | (with_reducible first | exact HB.out | apply below_alloc | apply pw_below_drewN | apply below_drew1) | exact HB.out)) hb); clear HO282; clear HB; have HO282 := n0_; have HB := n1_; clear n0_ n1_; (try clear hb); (try clear hb2); (try clear hk); (try clear hi)) | (go_at_call 18; (with_reducible refine (wire_Text.calls k (⟨#[101, 110, 100]⟩ : ByteArray) t285 _ A11.out).mono ?_); rintro e w24 ⟨rfl, hb⟩; have n0_ := Aside0.mk (Kd.R_below (by (with_reducible repeat (first | apply Kd.R_alloc | apply Kd.R_drewN | apply Kd.R_drew)); exact HO282.out) hb); have n1_ := Aside0.mk (below_step (by repeat (first | (with_reducible first | exact HB.out | apply below_alloc | apply pw_below_drewN | apply below_drew1) | exact HB.out)) hb); clear HO282; clear HB; have HO282 := n0_; have HB := n1_; clear n0_ n1_; (try clear hb); (try clear hb2); (try clear hk); (try clear hi)) | (go_at_call 12; (with_reducible refine (wire_New.calls ((t283 ++ t284) ++ t285) t286 t287 w _ ?side1 A13.out).mono ?_); (case side1 => repeat (first | (with_reducible first | exact HB.out | apply below_alloc | apply pw_below_drewN | apply below_drew1) | exact HB.out)); rintro e w25 ⟨g288, rfl, hi, hb, hb2⟩; have n0_ := Aside0.mk (Kd.R_below (by (with_reducible repeat (first | apply Kd.R_alloc | apply Kd.R_drewN | apply Kd.R_drew)); exact HO282.out) hb2); have n1_ := Aside0.mk (hb); have n2_ := Aside0.mk (hi); clear HO282; clear HB; have HO282 := n0_; have HB := n1_; have HI288 := n2_; clear n0_ n1_ n2_; (try clear hb); (try clear hb2); (try clear hk); (try clear hi)) | (go_at_call 32; (with_reducible refine (wire_Reader_Texts.calls k g288 t286 t287 t289 t292 t293 w _ ?side1 ?side2 A14.out).mono ?_); (case side1 => repeat (first | (with_reducible first | exact HI288.out | apply IsS47.alloc | apply IsS47.drewN | apply IsS47.drew | apply IsS47.set_0 | apply IsS47.set_1) | exact HI288.out)); (case side2 => repeat (first | (with_reducible first | exact HB.out | apply below_alloc | apply pw_below_drewN | apply below_drew1 | refine below_set ?_ (IsS47.ge HI288.out)) | exact HB.out)); rintro e w26 ⟨v290, rfl, ho0, hi, hb, hk⟩; have n0_ := Aside0.mk (Kd.R_mono (Kd.R_told (Kd.R_oldK (IsS47.apart (show IsS47 w _ g288 t286 t287 from by repeat (first | (with_reducible first | exact HI288.out | apply IsS47.alloc | apply IsS47.drewN | apply IsS47.drew | apply IsS47.set_0 | apply IsS47.set_1) | exact HI288.out)) (by (with_reducible repeat (first | apply Kd.R_alloc | apply Kd.R_drewN | apply Kd.R_drew)); exact HO282.out) (by decide)) hk) (Kd.R_base ho0)) (fun _ h_ => h_.1)); have n1_ := Aside0.mk (Kd.R_lower (Kd.R_new' ho0 (Kd.R_lt (by (with_reducible repeat (first | apply Kd.R_alloc | apply Kd.R_drewN | apply Kd.R_drew)); exact HO282.out))) (below_size (by repeat (first | (with_reducible first | exact HB.out | apply below_alloc | apply pw_below_drewN | apply below_drew1 | refine below_set ?_ (IsS47.ge HI288.out)) | exact HB.out)))); have n2_ := Aside0.mk (hb); have n3_ := Aside0.mk (hi); clear HO282; clear HB; clear HI288; have HO282 := n0_; have HO291 := n1_; have HB := n2_; have HI288 := n3_; clear n0_ n1_ n2_ n3_; (try clear hb); (try clear hb2); (try clear hk); (try clear hi); (try clear ho0)) | (go_at_call 29; (with_reducible refine (wire_Reader_Ints.calls k g288 t292 t293 t294 t297 t298 w _ ?side1 ?side2 A15.out).mono ?_); (case side1 => repeat (first | (with_reducible first | exact HI288.out | apply IsS47.alloc | apply IsS47.drewN | apply IsS47.drew | apply IsS47.set_0 | apply IsS47.set_1) | exact HI288.out)); (case side2 => repeat (first | (with_reducible first | exact HB.out | apply below_alloc | apply pw_below_drewN | apply below_drew1 | refine below_set ?_ (IsS47.ge HI288.out)) | exact HB.out)); rintro e w27 ⟨v295, rfl, ho0, hi, hb, hk⟩; have n0_ := Aside0.mk (Kd.R_mono (Kd.R_keep (IsS47.apart (show IsS47 w _ g288 t292 t293 from by repeat (first | (with_reducible first | exact HI288.out | apply IsS47.alloc | apply IsS47.drewN | apply IsS47.drew | apply IsS47.set_0 | apply IsS47.set_1) | exact HI288.out)) (by (with_reducible repeat (first | apply Kd.R_alloc | apply Kd.R_drewN | apply Kd.R_drew)); exact HO282.out) (by decide)) hk (fun _ h => h.2)) (fun _ h => h.1)); have n1_ := Aside0.mk (Kd.R_mono (Kd.R_keep (IsS47.apart (show IsS47 w _ g288 t292 t293 from by repeat (first | (with_reducible first | exact HI288.out | apply IsS47.alloc | apply IsS47.drewN | apply IsS47.drew | apply IsS47.set_0 | apply IsS47.set_1) | exact HI288.out)) (by (with_reducible repeat (first | apply Kd.R_alloc | apply Kd.R_drewN | apply Kd.R_drew)); exact HO291.out) (by decide)) hk (fun _ h => h.2)) (fun _ h => h.1)); have n2_ := Aside0.mk (Kd.R_lower ho0 (below_size (by repeat (first | (with_reducible first | exact HB.out | apply below_alloc | apply pw_below_drewN | apply below_drew1 | refine below_set ?_ (IsS47.ge HI288.out)) | exact HB.out)))); have n3_ := Aside0.mk (hb); have n4_ := Aside0.mk (hi); clear HO282; clear HO291; clear HB; clear HI288; have HO282 := n0_; have HO291 := n1_; have HO296 := n2_; have HB := n3_; have HI288 := n4_; clear n0_ n1_ n2_ n3_ n4_; (try clear hb); (try clear hb2); (try clear hk); (try clear hi); (try clear ho0)) | (go_at_call 26; (with_reducible refine (wire_Reader_Text.calls k g288 t297 t298 t299 t300 t301 w _ ?side1 ?side2 A16.out).mono ?_); (case side1 => repeat (first | (with_reducible first | exact HI288.out | apply IsS47.alloc | apply IsS47.drewN | apply IsS47.drew | apply IsS47.set_0 | apply IsS47.set_1) | exact HI288.out)); (case side2 => repeat (first | (with_reducible first | exact HB.out | apply below_alloc | apply pw_below_drewN | apply below_drew1 | refine below_set ?_ (IsS47.ge HI288.out)) | exact HB.out)); rintro e w28 ⟨rfl, hi, hb, hk⟩; have n0_ := Aside0.mk (Kd.R_mono (Kd.R_keep (IsS47.apart (show IsS47 w _ g288 t297 t298 from by repeat (first | (with_reducible first | exact HI288.out | apply IsS47.alloc | apply IsS47.drewN | apply IsS47.drew | apply IsS47.set_0 | apply IsS47.set_1) | exact HI288.out)) (by (with_reducible repeat (first | apply Kd.R_alloc | apply Kd.R_drewN | apply Kd.R_drew)); exact HO282.out) (by decide)) hk (fun _ h => h.2)) (fun _ h => h.1)); have n1_ := Aside0.mk (Kd.R_mono (Kd.R_keep (IsS47.apart (show IsS47 w _ g288 t297 t298 from by repeat (first | (with_reducible first | exact HI288.out | apply IsS47.alloc | apply IsS47.drewN | apply IsS47.drew | apply IsS47.set_0 | apply IsS47.set_1) | exact HI288.out)) (by (with_reducible repeat (first | apply Kd.R_alloc | apply Kd.R_drewN | apply Kd.R_drew)); exact HO291.out) (by decide)) hk (fun _ h => h.2)) (fun _ h => h.1)); have n2_ := Aside0.mk (Kd.R_mono (Kd.R_keep (IsS47.apart (show IsS47 w _ g288 t297 t298 from by repeat (first | (with_reducible first | exact HI288.out | apply IsS47.alloc | apply IsS47.drewN | apply IsS47.drew | apply IsS47.set_0 | apply IsS47.set_1) | exact HI288.out)) (by (with_reducible repeat (first | apply Kd.R_alloc | apply Kd.R_drewN | apply Kd.R_drew)); exact HO296.out) (by decide)) hk (fun _ h => h.2)) (fun _ h => h.1)); have n3_ := Aside0.mk (hb); have n4_ := Aside0.mk (hi); clear HO282; clear HO291; clear HO296; clear HB; clear HI288; have HO282 := n0_; have HO291 := n1_; have HO296 := n2_; have HB := n3_; have HI288 := n4_; clear n0_ n1_ n2_ n3_ n4_; (try clear hb); (try clear hb2); (try clear hk); (try clear hi))))
          (try simp only [Act.put, List.setIfInBounds_toArray, List.set_cons_zero, List.set_cons_succ])
          go_cut [49] (fun v49 wc => ∃ (kq : Nat) (x49_16 : Bool), v49 = .bool x49_16 ∧ Aside0 (abugidalaw02_WireAgain.j0 kq lt_ t280 t278 t289 t294 t299 x49_16 t300 t301 = some r) ∧ Aside0 (kq ≤ k) ∧ Aside0 (Kd.R Kd.string 9 wc w.heap.size (fun k_ => some k_ ≠ (v290 : Value).ownBlock) (.slice Ao21 t280.length co21) t280) ∧ Aside0 (Kd.R Kd.string 9 wc w.heap.size (fun k_ => some k_ ≠ ((.slice Ao21 t280.length co21) : Value).ownBlock) v290 t289) ∧ Aside0 (Kd.R (Kd.int .i64) 3 wc w.heap.size (fun _ => True) v295 t294) ∧ Aside0 (IsS47 w wc g288 t300 t301) ∧ Aside0 (Below w.heap.size w wc))
          case first =>
            have H := HC17.out
            clear HC17
            by_cases c29 : (t289.length : Int) = (t280.length : Int)
            · rw [if_pos c29] at H
              have c29b0 : ((t289.length : Int) == (t280.length : Int)) = true := beq_iff_eq.mpr c29
              have c29b1 : ((t289.length : Int) != (t280.length : Int)) = false := bne_eq_false_iff_eq.mpr c29
              have c29b2 : (t289.length == t280.length) = true := by first | simpa using c29 | (simp at c29 ⊢; omega)
              clear c29
              (first | rw [c29b0] | (simp only [i64_w, i32_w]; rw [c29b0]) | skip)
              have H' := Aside0.mk H
              clear H
              obtain ⟨Ao30, co30, eo30⟩ := Kd.R_slice HO291.out
              subst eo30
              obtain ⟨Ao31, co31, eo31⟩ := Kd.R_slice HO296.out
              subst eo31
              go_wp2
              repeat (go_quiet (fail); try go_wp2)
              go_meet
              case rel => exact ⟨_, (((t294.length : Int) != (lt_.length : Int))), (by first | rfl | (simp; done) | (simp only [← hji4] <;> (first | rfl | simp)) | (simp [*]; done)), H', ⟨by first | omega | exact Nat.le_refl _⟩, ⟨by (with_reducible repeat (first | apply Kd.R_alloc | apply Kd.R_drewN | apply Kd.R_drew)); exact Kd.R_mono HO282.out (fun _ hk => hk.2)⟩, ⟨by (with_reducible repeat (first | apply Kd.R_alloc | apply Kd.R_drewN | apply Kd.R_drew)); exact Kd.R_mono HO291.out (fun _ hk => hk.2)⟩, ⟨by (with_reducible repeat (first | apply Kd.R_alloc | apply Kd.R_drewN | apply Kd.R_drew)); exact HO296.out⟩, ⟨by repeat (first | (with_reducible first | exact HI288.out | apply IsS47.alloc | apply IsS47.drewN | apply IsS47.drew | apply IsS47.set_0 | apply IsS47.set_1) | exact HI288.out)⟩, ⟨by repeat (first | (with_reducible first | exact HB.out | apply below_alloc | apply pw_below_drewN | apply below_drew1 | refine below_set ?_ (IsS47.ge HI288.out)) | exact HB.out)⟩⟩
            · rw [if_neg c29] at H
              have c29b0 : ((t289.length : Int) == (t280.length : Int)) = false := beq_eq_false_iff_ne.mpr c29
              have c29b1 : ((t289.length : Int) != (t280.length : Int)) = true := bne_iff_ne.mpr c29
              have c29b2 : (t289.length == t280.length) = false := by first | simpa using c29 | (simp at c29 ⊢; omega)
              (first | rw [c29b0] | (simp only [i64_w, i32_w]; rw [c29b0]) | skip)
              have H' := Aside0.mk H
              clear H
              obtain ⟨Ao32, co32, eo32⟩ := Kd.R_slice HO291.out
              subst eo32
              go_wp2
              repeat (go_quiet (fail); try go_wp2)
              go_meet
              case rel => exact ⟨_, (true), (by first | rfl | (simp; done) | (simp [*]; done)), H', ⟨by first | omega | exact Nat.le_refl _⟩, ⟨by (with_reducible repeat (first | apply Kd.R_alloc | apply Kd.R_drewN | apply Kd.R_drew)); exact Kd.R_mono HO282.out (fun _ hk => hk.2)⟩, ⟨by (with_reducible repeat (first | apply Kd.R_alloc | apply Kd.R_drewN | apply Kd.R_drew)); exact Kd.R_mono HO291.out (fun _ hk => hk.2)⟩, ⟨by (with_reducible repeat (first | apply Kd.R_alloc | apply Kd.R_drewN | apply Kd.R_drew)); exact HO296.out⟩, ⟨by repeat (first | (with_reducible first | exact HI288.out | apply IsS47.alloc | apply IsS47.drewN | apply IsS47.drew | apply IsS47.set_0 | apply IsS47.set_1) | exact HI288.out)⟩, ⟨by repeat (first | (with_reducible first | exact HB.out | apply below_alloc | apply pw_below_drewN | apply below_drew1 | refine below_set ?_ (IsS47.ge HI288.out)) | exact HB.out)⟩⟩
          case rest =>
            clear HC17
            try clear c1
            try clear c2
            try clear p2
            try clear c5
            try clear c5b0
            try clear c5b1
            try clear c6
            try clear c6b0
            try clear c6b1
            try clear c7
            try clear c10
            try clear c10b0
            try clear c10b1
            try clear c10b2
            try clear c12
            try clear c12b0
            try clear c12b1
            try clear c12b2
            try clear c29
            try clear c29b0
            try clear c29b1
            try clear c29b2
            obtain ⟨kq, x49_16, rfl, HA, HJ16, HO_1, HO_8, HO_9, HI288, HB⟩ := hcut
            cases kq with
            | zero => exact absurd HA.out (by simp [abugidalaw02_WireAgain.j0])
            | succ kj16 =>
              have H := HA.out
              clear HA
              simp only [abugidalaw02_WireAgain.j0] at H
              by_cases c33 : x49_16 = true
              · subst c33
                have H1 : (some false) = some r := by rw [if_pos rfl] at H; exact H
                clear H
                have H := H1
                clear H1
                obtain rfl := Option.some.inj H
                go_wp2
                repeat (go_quiet (fail); try go_wp2)
                go_ret
                exact ⟨by first | rfl | (simp [errW_none, errW_some] <;> rfl) | (simp only [← hji4]; first | rfl | (simp [errW_none, errW_some] <;> rfl)) | (simp [*, errW_none, errW_some] <;> rfl), by repeat (first | (with_reducible first | exact HB.out | apply below_alloc | apply pw_below_drewN | apply below_drew1 | refine below_set ?_ (IsS47.ge HI288.out)) | exact HB.out)⟩
              · replace c33 := Bool.eq_false_iff.mpr c33
                subst c33
                have H1 : (abugidalaw02_WireAgain.l0 kj16 lt_ t280 t278 t289 t294 t299 0 t300 t301) = some r := by rw [if_neg (show ¬ (false = true) by decide)] at H; exact H
                clear H
                have H := H1
                clear H1
                have H' := Aside0.mk H
                clear H
                go_wp2
                repeat (go_quiet (fail); try go_wp2)
                go_loopg [11] kj16 (fun kq v11 w' => ∃ (x11_2 : Int), v11 = .int .i64 x11_2 ∧ Aside0 (abugidalaw02_WireAgain.l0 kq lt_ t280 t278 t289 t294 t299 x11_2 t300 t301 = some r) ∧ Aside0 (kq ≤ kj16) ∧ Aside0 (Kd.R Kd.string 9 w' w.heap.size (fun k_ => some k_ ≠ (v290 : Value).ownBlock) (.slice Ao21 t280.length co21) t280) ∧ Aside0 (Kd.R Kd.string 9 w' w.heap.size (fun k_ => some k_ ≠ ((.slice Ao21 t280.length co21) : Value).ownBlock) v290 t289) ∧ Aside0 (Kd.R (Kd.int .i64) 3 w' w.heap.size (fun _ => True) v295 t294) ∧ Aside0 (IsS47 w w' g288 t300 t301) ∧ Aside0 (Below w.heap.size w w'))
                case atStart => exact ⟨(0), (by first | rfl | (simp; done) | (simp [*]; done)), H', ⟨Nat.le_refl _⟩, ⟨by (with_reducible repeat (first | apply Kd.R_alloc | apply Kd.R_drewN | apply Kd.R_drew)); exact HO_1.out⟩, ⟨by (with_reducible repeat (first | apply Kd.R_alloc | apply Kd.R_drewN | apply Kd.R_drew)); exact HO_8.out⟩, ⟨by (with_reducible repeat (first | apply Kd.R_alloc | apply Kd.R_drewN | apply Kd.R_drew)); exact HO_9.out⟩, ⟨by repeat (first | (with_reducible first | exact HI288.out | apply IsS47.alloc | apply IsS47.drewN | apply IsS47.drew | apply IsS47.set_0 | apply IsS47.set_1) | exact HI288.out)⟩, ⟨by repeat (first | (with_reducible first | exact HB.out | apply below_alloc | apply pw_below_drewN | apply below_drew1 | refine below_set ?_ (IsS47.ge HI288.out)) | exact HB.out)⟩⟩
                case round =>
                  clear H'
                  try clear c1
                  try clear c2
                  try clear p2
                  try clear c3
                  try clear c5
                  try clear c5b0
                  try clear c5b1
                  try clear c6
                  try clear c6b0
                  try clear c6b1
                  try clear c7
                  try clear c10
                  try clear c10b0
                  try clear c10b1
                  try clear c10b2
                  try clear c12
                  try clear c12b0
                  try clear c12b1
                  try clear c12b2
                  try clear c29
                  try clear c29b0
                  try clear c29b1
                  try clear c29b2
                  try clear c33
                  try clear p2
                  obtain ⟨x11_2, rfl, HA, HK2, HO_1, HO_8, HO_9, HI288, HB⟩ := hrel
                  cases gk with
                  | zero => exact absurd HA.out (by simp [abugidalaw02_WireAgain.l0])
                  | succ k2 =>
                    have H := HA.out
                    clear HA
                    simp only [abugidalaw02_WireAgain.l0] at H
                    by_cases c34 : x11_2 < (t280.length : Int)
                    · rw [if_pos c34] at H
                      have c34b0 : decide (x11_2 < (t280.length : Int)) = true := decide_eq_true c34
                      clear c34
                      by_cases c35 : 0 ≤ x11_2
                      · rw [if_pos c35] at H
                        have c35b0 : decide (0 ≤ x11_2) = true := decide_eq_true c35
                        clear c35
                        by_cases c36 : x11_2 < (t289.length : Int)
                        · rw [if_pos c36] at H
                          have c36b0 : decide (x11_2 < (t289.length : Int)) = true := decide_eq_true c36
                          clear c36
                          by_cases c37 : (rdOf ByteArray.empty t289 x11_2).toList = (rdOf ByteArray.empty t280 x11_2).toList
                          · rw [if_pos c37] at H
                            have c37b0 : ((rdOf ByteArray.empty t289 x11_2).toList == (rdOf ByteArray.empty t280 x11_2).toList) = true := beq_iff_eq.mpr c37
                            have c37b1 : ((rdOf ByteArray.empty t289 x11_2).toList != (rdOf ByteArray.empty t280 x11_2).toList) = false := bne_eq_false_iff_eq.mpr c37
                            clear c37
                            have H' := Aside0.mk H
                            clear H
                            obtain ⟨Ao38, co38, eo38⟩ := Kd.R_slice HO_8.out
                            subst eo38
                            have p302 : 0 ≤ (x11_2 : Int) := of_decide_eq_true (by first | (with_reducible assumption) | assumption)
                            have q302 : x11_2 < (t289.length : Int) := of_decide_eq_true (by first | (with_reducible assumption) | assumption)
                            obtain ⟨ad302, e302, hx302_0⟩ := Kd.at_string (Kd.R_reads' HO_8.out).2.2 x11_2 p302 q302
                            cases e302
                            replace p302 := eq_true p302
                            replace q302 := eq_true q302
                            have p303 : 0 ≤ (x11_2 : Int) := of_decide_eq_true (by first | (with_reducible assumption) | assumption)
                            have q303 : x11_2 < (t280.length : Int) := of_decide_eq_true (by first | (with_reducible assumption) | assumption)
                            obtain ⟨ad303, e303, hx303_0⟩ := Kd.at_string (Kd.R_reads' HO_1.out).2.2 x11_2 p303 q303
                            cases e303
                            replace p303 := eq_true p303
                            replace q303 := eq_true q303
                            go_wp2
                            repeat (go_quiet (fail); try go_wp2)
                            go_roundg k2
                            case measure => have := HJ16.out; have := HK2.out; omega
                            case rel => exact ⟨(wrap64 (x11_2 + 1)), (by first | rfl | (simp; done) | (simp [*]; done)), H', ⟨by have := HJ16.out; have := HK2.out; omega⟩, ⟨by (with_reducible repeat (first | apply Kd.R_alloc | apply Kd.R_drewN | apply Kd.R_drew)); exact HO_1.out⟩, ⟨by (with_reducible repeat (first | apply Kd.R_alloc | apply Kd.R_drewN | apply Kd.R_drew)); exact HO_8.out⟩, ⟨by (with_reducible repeat (first | apply Kd.R_alloc | apply Kd.R_drewN | apply Kd.R_drew)); exact HO_9.out⟩, ⟨by repeat (first | (with_reducible first | exact HI288.out | apply IsS47.alloc | apply IsS47.drewN | apply IsS47.drew | apply IsS47.set_0 | apply IsS47.set_1) | exact HI288.out)⟩, ⟨by repeat (first | (with_reducible first | exact HB.out | apply below_alloc | apply pw_below_drewN | apply below_drew1 | refine below_set ?_ (IsS47.ge HI288.out)) | exact HB.out)⟩⟩
                          · rw [if_neg c37] at H
                            have c37b0 : ((rdOf ByteArray.empty t289 x11_2).toList == (rdOf ByteArray.empty t280 x11_2).toList) = false := beq_eq_false_iff_ne.mpr c37
                            have c37b1 : ((rdOf ByteArray.empty t289 x11_2).toList != (rdOf ByteArray.empty t280 x11_2).toList) = true := bne_iff_ne.mpr c37
                            obtain rfl := Option.some.inj H
                            obtain ⟨Ao39, co39, eo39⟩ := Kd.R_slice HO_8.out
                            subst eo39
                            have p302 : 0 ≤ (x11_2 : Int) := of_decide_eq_true (by first | (with_reducible assumption) | assumption)
                            have q302 : x11_2 < (t289.length : Int) := of_decide_eq_true (by first | (with_reducible assumption) | assumption)
                            obtain ⟨ad302, e302, hx302_0⟩ := Kd.at_string (Kd.R_reads' HO_8.out).2.2 x11_2 p302 q302
                            cases e302
                            replace p302 := eq_true p302
                            replace q302 := eq_true q302
                            have p303 : 0 ≤ (x11_2 : Int) := of_decide_eq_true (by first | (with_reducible assumption) | assumption)
                            have q303 : x11_2 < (t280.length : Int) := of_decide_eq_true (by first | (with_reducible assumption) | assumption)
                            obtain ⟨ad303, e303, hx303_0⟩ := Kd.at_string (Kd.R_reads' HO_1.out).2.2 x11_2 p303 q303
                            cases e303
                            replace p303 := eq_true p303
                            replace q303 := eq_true q303
                            go_wp2
                            repeat (go_quiet (fail); try go_wp2)
                            go_ret
                            exact ⟨by first | rfl | (simp [errW_none, errW_some] <;> rfl) | (simp only [← hji4]; first | rfl | (simp [errW_none, errW_some] <;> rfl)) | (simp [*, errW_none, errW_some] <;> rfl), by repeat (first | (with_reducible first | exact HB.out | apply below_alloc | apply pw_below_drewN | apply below_drew1 | refine below_set ?_ (IsS47.ge HI288.out)) | exact HB.out)⟩
                        · rw [if_neg c36] at H
                          exact absurd H (by simp)
                      · rw [if_neg c35] at H
                        exact absurd H (by simp)
                    · rw [if_neg c34] at H
                      have c34b0 : decide (x11_2 < (t280.length : Int)) = false := decide_eq_false c34
                      clear c34
                      have H' := Aside0.mk H
                      clear H
                      go_wp2
                      repeat (go_quiet (fail); try go_wp2)
                      go_loopg [12] k2 (fun kq v12 w' => ∃ (x12_3 : Int), v12 = .int .i64 x12_3 ∧ Aside0 (abugidalaw02_WireAgain.l1 kq lt_ t278 t294 t299 x12_3 t300 t301 = some r) ∧ Aside0 (kq ≤ k2) ∧ Aside0 (Kd.R (Kd.int .i64) 3 w' w.heap.size (fun _ => True) v295 t294) ∧ Aside0 (IsS47 w w' g288 t300 t301) ∧ Aside0 (Below w.heap.size w w'))
                      case atStart => exact ⟨(0), (by first | rfl | (simp; done) | (simp [*]; done)), H', ⟨Nat.le_refl _⟩, ⟨by (with_reducible repeat (first | apply Kd.R_alloc | apply Kd.R_drewN | apply Kd.R_drew)); exact HO_9.out⟩, ⟨by repeat (first | (with_reducible first | exact HI288.out | apply IsS47.alloc | apply IsS47.drewN | apply IsS47.drew | apply IsS47.set_0 | apply IsS47.set_1) | exact HI288.out)⟩, ⟨by repeat (first | (with_reducible first | exact HB.out | apply below_alloc | apply pw_below_drewN | apply below_drew1 | refine below_set ?_ (IsS47.ge HI288.out)) | exact HB.out)⟩⟩
                      case round =>
                        clear H'
                        try clear c1
                        try clear c2
                        try clear p2
                        try clear c3
                        try clear p3
                        try clear q3
                        try clear hx3
                        try clear c5
                        try clear c5b0
                        try clear c5b1
                        try clear c6
                        try clear c6b0
                        try clear c6b1
                        try clear p6
                        try clear c7
                        try clear c10
                        try clear c10b0
                        try clear c10b1
                        try clear c10b2
                        try clear c12
                        try clear c12b0
                        try clear c12b1
                        try clear c12b2
                        try clear c29
                        try clear c29b0
                        try clear c29b1
                        try clear c29b2
                        try clear p30
                        try clear q30
                        try clear hx30
                        try clear c33
                        try clear c34
                        try clear c34b0
                        try clear c35
                        try clear c35b0
                        try clear c36
                        try clear c36b0
                        try clear c37
                        try clear c37b0
                        try clear c37b1
                        try clear hx302_0
                        try clear hx303_0
                        try clear p2
                        try clear p302
                        try clear p303
                        try clear q302
                        try clear q303
                        obtain ⟨x12_3, rfl, HA, HK3, HO_9, HI288, HB⟩ := hrel
                        cases gk with
                        | zero => exact absurd HA.out (by simp [abugidalaw02_WireAgain.l1])
                        | succ k3 =>
                          have H := HA.out
                          clear HA
                          simp only [abugidalaw02_WireAgain.l1] at H
                          by_cases c40 : x12_3 < (lt_.length : Int)
                          · rw [if_pos c40] at H
                            have c40b0 : decide (x12_3 < (lt_.length : Int)) = true := decide_eq_true c40
                            clear c40
                            by_cases c41 : 0 ≤ x12_3
                            · rw [if_pos c41] at H
                              have c41b0 : decide (0 ≤ x12_3) = true := decide_eq_true c41
                              clear c41
                              by_cases c42 : x12_3 < (t294.length : Int)
                              · rw [if_pos c42] at H
                                have c42b0 : decide (x12_3 < (t294.length : Int)) = true := decide_eq_true c42
                                clear c42
                                by_cases c43 : (rd t294 x12_3) = (rd lt_ x12_3)
                                · rw [if_pos c43] at H
                                  have c43b0 : ((rd t294 x12_3) == (rd lt_ x12_3)) = true := beq_iff_eq.mpr c43
                                  have c43b1 : ((rd t294 x12_3) != (rd lt_ x12_3)) = false := bne_eq_false_iff_eq.mpr c43
                                  clear c43
                                  have H' := Aside0.mk H
                                  clear H
                                  obtain ⟨Ao44, co44, eo44⟩ := Kd.R_slice HO_9.out
                                  subst eo44
                                  have p304 : 0 ≤ (x12_3 : Int) := of_decide_eq_true (by first | (with_reducible assumption) | assumption)
                                  have q304 : x12_3 < (t294.length : Int) := of_decide_eq_true (by first | (with_reducible assumption) | assumption)
                                  obtain ⟨ad304, e304, hx304_0⟩ := Kd.at_int (Kd.R_reads' HO_9.out).2.2 x12_3 p304 q304
                                  cases e304
                                  replace p304 := eq_true p304
                                  replace q304 := eq_true q304
                                  have p305 : 0 ≤ (x12_3 : Int) := of_decide_eq_true (by first | (with_reducible assumption) | assumption)
                                  have q305 : x12_3 < (lt_.length : Int) := of_decide_eq_true (by first | (with_reducible assumption) | assumption)
                                  obtain ⟨ad305, e305, hx305_0⟩ := Kd.at_int HR279.out x12_3 p305 q305
                                  cases e305
                                  replace hx305_0 := (HB.out.cell (World.block_lt_of_cell? w _ hx305_0)).trans hx305_0
                                  replace p305 := eq_true p305
                                  replace q305 := eq_true q305
                                  go_wp2
                                  repeat (go_quiet (fail); try go_wp2)
                                  go_roundg k3
                                  case measure => have := HJ16.out; have := HK2.out; have := HK3.out; omega
                                  case rel => exact ⟨(wrap64 (x12_3 + 1)), (by first | rfl | (simp; done) | (simp [*]; done)), H', ⟨by have := HJ16.out; have := HK2.out; have := HK3.out; omega⟩, ⟨by (with_reducible repeat (first | apply Kd.R_alloc | apply Kd.R_drewN | apply Kd.R_drew)); exact HO_9.out⟩, ⟨by repeat (first | (with_reducible first | exact HI288.out | apply IsS47.alloc | apply IsS47.drewN | apply IsS47.drew | apply IsS47.set_0 | apply IsS47.set_1) | exact HI288.out)⟩, ⟨by repeat (first | (with_reducible first | exact HB.out | apply below_alloc | apply pw_below_drewN | apply below_drew1 | refine below_set ?_ (IsS47.ge HI288.out)) | exact HB.out)⟩⟩
                                · rw [if_neg c43] at H
                                  have c43b0 : ((rd t294 x12_3) == (rd lt_ x12_3)) = false := beq_eq_false_iff_ne.mpr c43
                                  have c43b1 : ((rd t294 x12_3) != (rd lt_ x12_3)) = true := bne_iff_ne.mpr c43
                                  obtain rfl := Option.some.inj H
                                  obtain ⟨Ao45, co45, eo45⟩ := Kd.R_slice HO_9.out
                                  subst eo45
                                  have p304 : 0 ≤ (x12_3 : Int) := of_decide_eq_true (by first | (with_reducible assumption) | assumption)
                                  have q304 : x12_3 < (t294.length : Int) := of_decide_eq_true (by first | (with_reducible assumption) | assumption)
                                  obtain ⟨ad304, e304, hx304_0⟩ := Kd.at_int (Kd.R_reads' HO_9.out).2.2 x12_3 p304 q304
                                  cases e304
                                  replace p304 := eq_true p304
                                  replace q304 := eq_true q304
                                  have p305 : 0 ≤ (x12_3 : Int) := of_decide_eq_true (by first | (with_reducible assumption) | assumption)
                                  have q305 : x12_3 < (lt_.length : Int) := of_decide_eq_true (by first | (with_reducible assumption) | assumption)
                                  obtain ⟨ad305, e305, hx305_0⟩ := Kd.at_int HR279.out x12_3 p305 q305
                                  cases e305
                                  replace hx305_0 := (HB.out.cell (World.block_lt_of_cell? w _ hx305_0)).trans hx305_0
                                  replace p305 := eq_true p305
                                  replace q305 := eq_true q305
                                  go_wp2
                                  repeat (go_quiet (fail); try go_wp2)
                                  go_ret
                                  exact ⟨by first | rfl | (simp [errW_none, errW_some] <;> rfl) | (simp only [← hji4]; first | rfl | (simp [errW_none, errW_some] <;> rfl)) | (simp [*, errW_none, errW_some] <;> rfl), by repeat (first | (with_reducible first | exact HB.out | apply below_alloc | apply pw_below_drewN | apply below_drew1 | refine below_set ?_ (IsS47.ge HI288.out)) | exact HB.out)⟩
                              · rw [if_neg c42] at H
                                exact absurd H (by simp)
                            · rw [if_neg c41] at H
                              exact absurd H (by simp)
                          · rw [if_neg c40] at H
                            have c40b0 : decide (x12_3 < (lt_.length : Int)) = false := decide_eq_false c40
                            clear c40
                            by_cases c46 : t278 = true
                            · subst c46
                              have H1 : (if t299.toList = ([101, 110, 100] : List UInt8) then ((wire_Reader_Left.f t300 t301).bind fun bt306 => (if bt306.1 = 0 then ((wire_Reader_Bad.f bt306.2.1 bt306.2.2).bind fun bt309 => (some (!bt309.1))) else (some false))) else (some false)) = some r := by rw [if_pos rfl] at H; exact H
                              clear H
                              have H := H1
                              clear H1
                              by_cases c47 : t299.toList = ([101, 110, 100] : List UInt8)
                              · rw [if_pos c47] at H
                                have c47b0 : (t299.toList == ([101, 110, 100] : List UInt8)) = true := beq_iff_eq.mpr c47
                                have c47b1 : (t299.toList != ([101, 110, 100] : List UInt8)) = false := bne_eq_false_iff_eq.mpr c47
                                clear c47
                                replace H := Option.bind_eq_some_iff.mp H
                                obtain ⟨⟨t306, t307, t308⟩, A480, H⟩ := H
                                replace H : (if t306 = 0 then ((wire_Reader_Bad.f t307 t308).bind fun bt309 => (some (!bt309.1))) else (some false)) = some r := H
                                have A48 := Aside0.mk A480
                                clear A480
                                by_cases c49 : t306 = 0
                                · rw [if_pos c49] at H
                                  have c49b0 : (t306 == 0) = true := beq_iff_eq.mpr c49
                                  have c49b1 : (t306 != 0) = false := bne_eq_false_iff_eq.mpr c49
                                  clear c49
                                  replace H := Option.bind_eq_some_iff.mp H
                                  obtain ⟨⟨t309, t310, t311⟩, A500, H⟩ := H
                                  replace H : (some (!t309)) = some r := H
                                  have A50 := Aside0.mk A500
                                  clear A500
                                  obtain rfl := Option.some.inj H
                                  go_wp2_with (first | (go_at_call 15; (with_reducible refine (wire_Reader_Left.calls g288 t300 t301 t306 t307 t308 w _ ?side1 ?side2 A48.out).mono ?_); (case side1 => repeat (first | (with_reducible first | exact HI288.out | apply IsS47.alloc | apply IsS47.drewN | apply IsS47.drew | apply IsS47.set_0 | apply IsS47.set_1) | exact HI288.out)); (case side2 => repeat (first | (with_reducible first | exact HB.out | apply below_alloc | apply pw_below_drewN | apply below_drew1 | refine below_set ?_ (IsS47.ge HI288.out)) | exact HB.out)); rintro e w51 ⟨rfl, hi, hb, hk⟩; have n0_ := Aside0.mk (Kd.R_mono (Kd.R_keep (IsS47.apart (show IsS47 w _ g288 t300 t301 from by repeat (first | (with_reducible first | exact HI288.out | apply IsS47.alloc | apply IsS47.drewN | apply IsS47.drew | apply IsS47.set_0 | apply IsS47.set_1) | exact HI288.out)) (by (with_reducible repeat (first | apply Kd.R_alloc | apply Kd.R_drewN | apply Kd.R_drew)); exact HO_9.out) (by decide)) hk (fun _ h => h.2)) (fun _ h => h.1)); have n1_ := Aside0.mk (hb); have n2_ := Aside0.mk (hi); clear HO_9; clear HB; clear HI288; have HO_9 := n0_; have HB := n1_; have HI288 := n2_; clear n0_ n1_ n2_; (try clear hb); (try clear hb2); (try clear hk); (try clear hi)) | (go_at_call 16; (with_reducible refine (wire_Reader_Bad.calls g288 t307 t308 t309 t310 t311 w _ ?side1 ?side2 A50.out).mono ?_); (case side1 => repeat (first | (with_reducible first | exact HI288.out | apply IsS47.alloc | apply IsS47.drewN | apply IsS47.drew | apply IsS47.set_0 | apply IsS47.set_1) | exact HI288.out)); (case side2 => repeat (first | (with_reducible first | exact HB.out | apply below_alloc | apply pw_below_drewN | apply below_drew1 | refine below_set ?_ (IsS47.ge HI288.out)) | exact HB.out)); rintro e w52 ⟨rfl, hi, hb, hk⟩; have n0_ := Aside0.mk (Kd.R_mono (Kd.R_keep (IsS47.apart (show IsS47 w _ g288 t307 t308 from by repeat (first | (with_reducible first | exact HI288.out | apply IsS47.alloc | apply IsS47.drewN | apply IsS47.drew | apply IsS47.set_0 | apply IsS47.set_1) | exact HI288.out)) (by (with_reducible repeat (first | apply Kd.R_alloc | apply Kd.R_drewN | apply Kd.R_drew)); exact HO_9.out) (by decide)) hk (fun _ h => h.2)) (fun _ h => h.1)); have n1_ := Aside0.mk (hb); have n2_ := Aside0.mk (hi); clear HO_9; clear HB; clear HI288; have HO_9 := n0_; have HB := n1_; have HI288 := n2_; clear n0_ n1_ n2_; (try clear hb); (try clear hb2); (try clear hk); (try clear hi)))
                                  repeat (go_quiet (first | (go_at_call 15; (with_reducible refine (wire_Reader_Left.calls g288 t300 t301 t306 t307 t308 w _ ?side1 ?side2 A48.out).mono ?_); (case side1 => repeat (first | (with_reducible first | exact HI288.out | apply IsS47.alloc | apply IsS47.drewN | apply IsS47.drew | apply IsS47.set_0 | apply IsS47.set_1) | exact HI288.out)); (case side2 => repeat (first | (with_reducible first | exact HB.out | apply below_alloc | apply pw_below_drewN | apply below_drew1 | refine below_set ?_ (IsS47.ge HI288.out)) | exact HB.out)); rintro e w51 ⟨rfl, hi, hb, hk⟩; have n0_ := Aside0.mk (Kd.R_mono (Kd.R_keep (IsS47.apart (show IsS47 w _ g288 t300 t301 from by repeat (first | (with_reducible first | exact HI288.out | apply IsS47.alloc | apply IsS47.drewN | apply IsS47.drew | apply IsS47.set_0 | apply IsS47.set_1) | exact HI288.out)) (by (with_reducible repeat (first | apply Kd.R_alloc | apply Kd.R_drewN | apply Kd.R_drew)); exact HO_9.out) (by decide)) hk (fun _ h => h.2)) (fun _ h => h.1)); have n1_ := Aside0.mk (hb); have n2_ := Aside0.mk (hi); clear HO_9; clear HB; clear HI288; have HO_9 := n0_; have HB := n1_; have HI288 := n2_; clear n0_ n1_ n2_; (try clear hb); (try clear hb2); (try clear hk); (try clear hi)) | (go_at_call 16; (with_reducible refine (wire_Reader_Bad.calls g288 t307 t308 t309 t310 t311 w _ ?side1 ?side2 A50.out).mono ?_); (case side1 => repeat (first | (with_reducible first | exact HI288.out | apply IsS47.alloc | apply IsS47.drewN | apply IsS47.drew | apply IsS47.set_0 | apply IsS47.set_1) | exact HI288.out)); (case side2 => repeat (first | (with_reducible first | exact HB.out | apply below_alloc | apply pw_below_drewN | apply below_drew1 | refine below_set ?_ (IsS47.ge HI288.out)) | exact HB.out)); rintro e w52 ⟨rfl, hi, hb, hk⟩; have n0_ := Aside0.mk (Kd.R_mono (Kd.R_keep (IsS47.apart (show IsS47 w _ g288 t307 t308 from by repeat (first | (with_reducible first | exact HI288.out | apply IsS47.alloc | apply IsS47.drewN | apply IsS47.drew | apply IsS47.set_0 | apply IsS47.set_1) | exact HI288.out)) (by (with_reducible repeat (first | apply Kd.R_alloc | apply Kd.R_drewN | apply Kd.R_drew)); exact HO_9.out) (by decide)) hk (fun _ h => h.2)) (fun _ h => h.1)); have n1_ := Aside0.mk (hb); have n2_ := Aside0.mk (hi); clear HO_9; clear HB; clear HI288; have HO_9 := n0_; have HB := n1_; have HI288 := n2_; clear n0_ n1_ n2_; (try clear hb); (try clear hb2); (try clear hk); (try clear hi))); try go_wp2_with (first | (go_at_call 15; (with_reducible refine (wire_Reader_Left.calls g288 t300 t301 t306 t307 t308 w _ ?side1 ?side2 A48.out).mono ?_); (case side1 => repeat (first | (with_reducible first | exact HI288.out | apply IsS47.alloc | apply IsS47.drewN | apply IsS47.drew | apply IsS47.set_0 | apply IsS47.set_1) | exact HI288.out)); (case side2 => repeat (first | (with_reducible first | exact HB.out | apply below_alloc | apply pw_below_drewN | apply below_drew1 | refine below_set ?_ (IsS47.ge HI288.out)) | exact HB.out)); rintro e w51 ⟨rfl, hi, hb, hk⟩; have n0_ := Aside0.mk (Kd.R_mono (Kd.R_keep (IsS47.apart (show IsS47 w _ g288 t300 t301 from by repeat (first | (with_reducible first | exact HI288.out | apply IsS47.alloc | apply IsS47.drewN | apply IsS47.drew | apply IsS47.set_0 | apply IsS47.set_1) | exact HI288.out)) (by (with_reducible repeat (first | apply Kd.R_alloc | apply Kd.R_drewN | apply Kd.R_drew)); exact HO_9.out) (by decide)) hk (fun _ h => h.2)) (fun _ h => h.1)); have n1_ := Aside0.mk (hb); have n2_ := Aside0.mk (hi); clear HO_9; clear HB; clear HI288; have HO_9 := n0_; have HB := n1_; have HI288 := n2_; clear n0_ n1_ n2_; (try clear hb); (try clear hb2); (try clear hk); (try clear hi)) | (go_at_call 16; (with_reducible refine (wire_Reader_Bad.calls g288 t307 t308 t309 t310 t311 w _ ?side1 ?side2 A50.out).mono ?_); (case side1 => repeat (first | (with_reducible first | exact HI288.out | apply IsS47.alloc | apply IsS47.drewN | apply IsS47.drew | apply IsS47.set_0 | apply IsS47.set_1) | exact HI288.out)); (case side2 => repeat (first | (with_reducible first | exact HB.out | apply below_alloc | apply pw_below_drewN | apply below_drew1 | refine below_set ?_ (IsS47.ge HI288.out)) | exact HB.out)); rintro e w52 ⟨rfl, hi, hb, hk⟩; have n0_ := Aside0.mk (Kd.R_mono (Kd.R_keep (IsS47.apart (show IsS47 w _ g288 t307 t308 from by repeat (first | (with_reducible first | exact HI288.out | apply IsS47.alloc | apply IsS47.drewN | apply IsS47.drew | apply IsS47.set_0 | apply IsS47.set_1) | exact HI288.out)) (by (with_reducible repeat (first | apply Kd.R_alloc | apply Kd.R_drewN | apply Kd.R_drew)); exact HO_9.out) (by decide)) hk (fun _ h => h.2)) (fun _ h => h.1)); have n1_ := Aside0.mk (hb); have n2_ := Aside0.mk (hi); clear HO_9; clear HB; clear HI288; have HO_9 := n0_; have HB := n1_; have HI288 := n2_; clear n0_ n1_ n2_; (try clear hb); (try clear hb2); (try clear hk); (try clear hi))))
                                  go_ret
                                  exact ⟨by first | rfl | (simp [errW_none, errW_some] <;> rfl) | (simp only [← hji4]; first | rfl | (simp [errW_none, errW_some] <;> rfl)) | (simp [*, errW_none, errW_some] <;> rfl), by repeat (first | (with_reducible first | exact HB.out | apply below_alloc | apply pw_below_drewN | apply below_drew1 | refine below_set ?_ (IsS47.ge HI288.out)) | exact HB.out)⟩
                                · rw [if_neg c49] at H
                                  have c49b0 : (t306 == 0) = false := beq_eq_false_iff_ne.mpr c49
                                  have c49b1 : (t306 != 0) = true := bne_iff_ne.mpr c49
                                  obtain rfl := Option.some.inj H
                                  go_wp2_with (first | (go_at_call 15; (with_reducible refine (wire_Reader_Left.calls g288 t300 t301 t306 t307 t308 w _ ?side1 ?side2 A48.out).mono ?_); (case side1 => repeat (first | (with_reducible first | exact HI288.out | apply IsS47.alloc | apply IsS47.drewN | apply IsS47.drew | apply IsS47.set_0 | apply IsS47.set_1) | exact HI288.out)); (case side2 => repeat (first | (with_reducible first | exact HB.out | apply below_alloc | apply pw_below_drewN | apply below_drew1 | refine below_set ?_ (IsS47.ge HI288.out)) | exact HB.out)); rintro e w53 ⟨rfl, hi, hb, hk⟩; have n0_ := Aside0.mk (Kd.R_mono (Kd.R_keep (IsS47.apart (show IsS47 w _ g288 t300 t301 from by repeat (first | (with_reducible first | exact HI288.out | apply IsS47.alloc | apply IsS47.drewN | apply IsS47.drew | apply IsS47.set_0 | apply IsS47.set_1) | exact HI288.out)) (by (with_reducible repeat (first | apply Kd.R_alloc | apply Kd.R_drewN | apply Kd.R_drew)); exact HO_9.out) (by decide)) hk (fun _ h => h.2)) (fun _ h => h.1)); have n1_ := Aside0.mk (hb); have n2_ := Aside0.mk (hi); clear HO_9; clear HB; clear HI288; have HO_9 := n0_; have HB := n1_; have HI288 := n2_; clear n0_ n1_ n2_; (try clear hb); (try clear hb2); (try clear hk); (try clear hi)))
                                  repeat (go_quiet (first | (go_at_call 15; (with_reducible refine (wire_Reader_Left.calls g288 t300 t301 t306 t307 t308 w _ ?side1 ?side2 A48.out).mono ?_); (case side1 => repeat (first | (with_reducible first | exact HI288.out | apply IsS47.alloc | apply IsS47.drewN | apply IsS47.drew | apply IsS47.set_0 | apply IsS47.set_1) | exact HI288.out)); (case side2 => repeat (first | (with_reducible first | exact HB.out | apply below_alloc | apply pw_below_drewN | apply below_drew1 | refine below_set ?_ (IsS47.ge HI288.out)) | exact HB.out)); rintro e w53 ⟨rfl, hi, hb, hk⟩; have n0_ := Aside0.mk (Kd.R_mono (Kd.R_keep (IsS47.apart (show IsS47 w _ g288 t300 t301 from by repeat (first | (with_reducible first | exact HI288.out | apply IsS47.alloc | apply IsS47.drewN | apply IsS47.drew | apply IsS47.set_0 | apply IsS47.set_1) | exact HI288.out)) (by (with_reducible repeat (first | apply Kd.R_alloc | apply Kd.R_drewN | apply Kd.R_drew)); exact HO_9.out) (by decide)) hk (fun _ h => h.2)) (fun _ h => h.1)); have n1_ := Aside0.mk (hb); have n2_ := Aside0.mk (hi); clear HO_9; clear HB; clear HI288; have HO_9 := n0_; have HB := n1_; have HI288 := n2_; clear n0_ n1_ n2_; (try clear hb); (try clear hb2); (try clear hk); (try clear hi))); try go_wp2_with (first | (go_at_call 15; (with_reducible refine (wire_Reader_Left.calls g288 t300 t301 t306 t307 t308 w _ ?side1 ?side2 A48.out).mono ?_); (case side1 => repeat (first | (with_reducible first | exact HI288.out | apply IsS47.alloc | apply IsS47.drewN | apply IsS47.drew | apply IsS47.set_0 | apply IsS47.set_1) | exact HI288.out)); (case side2 => repeat (first | (with_reducible first | exact HB.out | apply below_alloc | apply pw_below_drewN | apply below_drew1 | refine below_set ?_ (IsS47.ge HI288.out)) | exact HB.out)); rintro e w53 ⟨rfl, hi, hb, hk⟩; have n0_ := Aside0.mk (Kd.R_mono (Kd.R_keep (IsS47.apart (show IsS47 w _ g288 t300 t301 from by repeat (first | (with_reducible first | exact HI288.out | apply IsS47.alloc | apply IsS47.drewN | apply IsS47.drew | apply IsS47.set_0 | apply IsS47.set_1) | exact HI288.out)) (by (with_reducible repeat (first | apply Kd.R_alloc | apply Kd.R_drewN | apply Kd.R_drew)); exact HO_9.out) (by decide)) hk (fun _ h => h.2)) (fun _ h => h.1)); have n1_ := Aside0.mk (hb); have n2_ := Aside0.mk (hi); clear HO_9; clear HB; clear HI288; have HO_9 := n0_; have HB := n1_; have HI288 := n2_; clear n0_ n1_ n2_; (try clear hb); (try clear hb2); (try clear hk); (try clear hi))))
                                  go_ret
                                  exact ⟨by first | rfl | (simp [errW_none, errW_some] <;> rfl) | (simp only [← hji4]; first | rfl | (simp [errW_none, errW_some] <;> rfl)) | (simp [*, errW_none, errW_some] <;> rfl), by repeat (first | (with_reducible first | exact HB.out | apply below_alloc | apply pw_below_drewN | apply below_drew1 | refine below_set ?_ (IsS47.ge HI288.out)) | exact HB.out)⟩
                              · rw [if_neg c47] at H
                                have c47b0 : (t299.toList == ([101, 110, 100] : List UInt8)) = false := beq_eq_false_iff_ne.mpr c47
                                have c47b1 : (t299.toList != ([101, 110, 100] : List UInt8)) = true := bne_iff_ne.mpr c47
                                obtain rfl := Option.some.inj H
                                go_wp2
                                repeat (go_quiet (fail); try go_wp2)
                                go_ret
                                exact ⟨by first | rfl | (simp [errW_none, errW_some] <;> rfl) | (simp only [← hji4]; first | rfl | (simp [errW_none, errW_some] <;> rfl)) | (simp [*, errW_none, errW_some] <;> rfl), by repeat (first | (with_reducible first | exact HB.out | apply below_alloc | apply pw_below_drewN | apply below_drew1 | refine below_set ?_ (IsS47.ge HI288.out)) | exact HB.out)⟩
                            · replace c46 := Bool.eq_false_iff.mpr c46
                              subst c46
                              have H1 : (some false) = some r := by rw [if_neg (show ¬ (false = true) by decide)] at H; exact H
                              clear H
                              have H := H1
                              clear H1
                              obtain rfl := Option.some.inj H
                              go_wp2
                              repeat (go_quiet (fail); try go_wp2)
                              go_ret
                              exact ⟨by first | rfl | (simp [errW_none, errW_some] <;> rfl) | (simp only [← hji4]; first | rfl | (simp [errW_none, errW_some] <;> rfl)) | (simp [*, errW_none, errW_some] <;> rfl), by repeat (first | (with_reducible first | exact HB.out | apply below_alloc | apply pw_below_drewN | apply below_drew1 | refine below_set ?_ (IsS47.ge HI288.out)) | exact HB.out)⟩
        · rw [if_neg c12] at H
          exact absurd H (by simp)
      · rw [if_neg c10] at H
        exact absurd H (by simp)
    · rw [if_neg c6] at H
      exact absurd H (by simp)
  · rw [if_neg c5] at H
    exact absurd H (by simp)

-- NOT PRINTED: function 8 (abugidalaw02_WireCut)

-- NOT PRINTED: function 9 (abugidalaw02_WireBounds)

end Go.Proofs.Ytibdgpnedlpdbaa.Pb
