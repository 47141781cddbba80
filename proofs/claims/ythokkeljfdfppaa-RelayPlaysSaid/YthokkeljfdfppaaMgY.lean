/- Several texts of this claim, one behind the other: Pby0, Pby1. -/
import Derived.Test.YthokkeljfdfppaaMgG
import Derived.Test.YthokkeljfdfppaaProg
import Derived.Below
import Derived.Deep.Draws
import Derived.Deep.AppendLies
import Derived.Maps.AppendAt
import Derived.OwnWalk
import Derived.Laws.BytesArg
import Derived.Laws.MakeOwn
import Derived.Laws.OwnMore
import Derived.Deep.OwnRows
import Derived.Tactics
import Derived.Lib.ConvBytes
import Derived.Laws.Slices
import Derived.WalkKit
import Derived.KernelRfl
import Derived.RowKit3
import Derived.Deep.LoopGhost
import Derived.Deep.QuietTactic
import Derived.BigQuiet
import Derived.WideLaws
import Derived.Deep.DeepCutAuto
import Derived.Deep.CutBlock
import Derived.Deep.RegionHeld3
import Derived.Laws.Rows
import Derived.Lib.AppendStr
import Derived.ArgAppend
import Derived.Laws.IdiomCopy
import Derived.OrdersHeld
import Derived.Laws.BitsLemmas
import Derived.RowKit
import Derived.Test.YthokkeljfdfppaaMgP
namespace Go.Proofs.Ythokkeljfdfppaa.Pb
open Go.RowKit Go.Proofs.YthokkeljfdfppaaW.PrintWords Go.Proofs.YthokkeljfdfppaaW.PrintLast Go.Proofs.YthokkeljfdfppaaW.PrintMore
open Go.Proofs.Ythokkeljfdfppaa.Gw
attribute [local go_sem] max2_int min2_int max_two min_two max_three min_three max_four min_four   -- for this text's walks alone
set_option linter.unusedVariables false
set_option linter.unusedSimpArgs false




theorem zam7 {p : Prop} (h : p := by first | rfl | (simp; done) | (simp [*]; done)) : p := h
theorem zam6 {p : Prop} (h : p := by first | exact Kd.R_nil _ _ _ _ _ | exact Kd.N_nil _ _ _ _ _ | exact Kd.V_nil _ _ _ _ _ | exact Kd.Q_nil _ _ _ _ _ | exact Kd.S_nil _ _ _ _ _) : p := h
theorem zam5 {p : Prop} (h : p := by first | rfl | (simp [errW_none, errW_some] <;> rfl) | (simp [*, errW_none, errW_some] <;> rfl)) : p := h
theorem zam4 {p : Prop} (h : p := by (with_reducible repeat (first | apply Kd.R_alloc | apply Kd.R_drewN | apply Kd.R_drew)); exact HO_4.out) : p := h
theorem zam3 {p : Prop} (h : p := by (try simp only [List.map_toArray, List.map_cons, List.map_nil]); first | done | rfl | (simp only [List.length_drop, List.length_take]; rfl)) : p := h
theorem zam2 {p : Prop} (h : p := by repeat (first | (with_reducible first | exact HK.out | apply KeepBut.set_ | apply keep_drewN | apply keep_drew | apply keep_alloc) | exact HK.out)) : p := h
theorem zam1 {p : Prop} (h : p := by repeat (first | (with_reducible first | exact HB.out | apply below_alloc | apply pw_below_drewN | apply below_drew1 | refine below_set ?_ (IsS111.ge HI0.out)) | exact HB.out)) : p := h
theorem zam0 {p : Prop} (h : p := by repeat (first | (with_reducible first | exact HI0.out | apply IsS111.alloc | apply IsS111.drewN | apply IsS111.drew | apply IsS111.set_0 | apply IsS111.set_1 | apply IsS111.set_2) | exact HI0.out)) : p := h
theorem info3 : (Try.prog.info? 3).map (fun i => (i.zero, i.size, i.bytes)) = some (some (.int .i64 0), 1, 8) := by kernel_rfl
theorem info9 : (Try.prog.info? 9).map (fun i => (i.zero, i.size, i.bytes)) = some (some (.string ⟨#[]⟩), 1, 16) := by kernel_rfl
theorem info52 : (Try.prog.info? 52).map (fun i => (i.zero, i.size, i.bytes)) = some (some (.agg #[(.int .i64 0), (.int .i64 0), (.int .i64 0)]), 3, 24) := by kernel_rfl
theorem info55 : (Try.prog.info? 55).map (fun i => (i.zero, i.size, i.bytes)) = some (some (.agg #[(.string ⟨#[]⟩), (.int .i64 0), (.int .i64 0), (.int .i64 0), (.int .i64 0), (.int .i64 0), (.int .i64 0), (.int .i64 0), (.string ⟨#[]⟩), (.int .i64 0), (.slice none 0 0)]), 11, 120) := by kernel_rfl
-- the values' own types
structure S52 where
 f0 : Int
 f1 : Int
 f2 : Int
def z52 : S52 := ⟨(0 : Int), (0 : Int), (0 : Int)⟩
def k52 : Kd S52 := Kd.iso (Kd.pair (Kd.int .i64) (Kd.pair (Kd.int .i64) (Kd.int .i64))) (fun x : S52 => (x.f0, x.f1, x.f2))
theorem k52_open {w : World} {x : S52} {cs : List Value} (h : k52.K w x cs) : cs = [.int .i64 x.f0, .int .i64 x.f1, .int .i64 x.f2] := by
 obtain ⟨_, _, rfl, rfl, ⟨_, _, rfl, rfl, rfl⟩⟩ := h
 exact rfl
theorem k52_mk (w : World) (x : S52)  : k52.K w x [.int .i64 x.f0, .int .i64 x.f1, .int .i64 x.f2] := ⟨[.int .i64 x.f0], [.int .i64 x.f1, .int .i64 x.f2], rfl, rfl, ⟨[.int .i64 x.f1], [.int .i64 x.f2], rfl, rfl, rfl⟩⟩
theorem k52_mkM (w : World) (base : Nat) (ok : Nat → Prop) (x : S52)  : k52.M w base ok x [.int .i64 x.f0, .int .i64 x.f1, .int .i64 x.f2] := ⟨[.int .i64 x.f0], [.int .i64 x.f1, .int .i64 x.f2], rfl, rfl, ⟨[.int .i64 x.f1], [.int .i64 x.f2], rfl, rfl, rfl⟩⟩
def rd_T52 (xs : List S52) (i : Int) : S52 := xs.getD i.toNat z52
theorem at_T52 {w : World} {A : Option Addr} {n : Nat} {xs : List S52} (h : Kd.C k52 w A n xs) (i : Int) (h0 : 0 ≤ i) (h1 : i < n) : ∃ ad , A = some ad ∧ w.cell? (ad.add (i.toNat * 3)) = some (.int .i64 (rd_T52 xs i).f0) ∧ w.cell? ⟨(ad.add (i.toNat * 3)).block, (ad.add (i.toNat * 3)).off + 1, none⟩ = some (.int .i64 (rd_T52 xs i).f1) ∧ w.cell? ⟨(ad.add (i.toNat * 3)).block, (ad.add (i.toNat * 3)).off + 2, none⟩ = some (.int .i64 (rd_T52 xs i).f2) := by
 obtain ⟨ad, c, e, _, hK, hc0⟩ := Kd.C_get h z52 i h0 h1
 have hc : ∀ j u, c[j]? = some u → w.cell? (ad.add (i.toNat * 3 + j)) = some u := hc0
 obtain rfl := k52_open hK
 exact ⟨ad, e, hc 0 _ rfl, by rw [← add_field _ _ 1 (by omega)]; exact hc 1 _ rfl, by rw [← add_field _ _ 2 (by omega)]; exact hc 2 _ rfl⟩

structure S55 where
 f0 : ByteArray
 f1 : Int
 f2 : S52
 f3 : S52
 f4 : ByteArray
 f5 : Int
 f6 : (List ByteArray)
def z55 : S55 := ⟨(⟨#[]⟩ : ByteArray), (0 : Int), z52, z52, (⟨#[]⟩ : ByteArray), (0 : Int), ([] : List ByteArray)⟩
def k55 : Kd S55 := Kd.iso (Kd.pair Kd.string (Kd.pair (Kd.int .i64) (Kd.pair k52 (Kd.pair k52 (Kd.pair Kd.string (Kd.pair (Kd.int .i64) (Kd.slice 9 Kd.string))))))) (fun x : S55 => (x.f0, x.f1, x.f2, x.f3, x.f4, x.f5, x.f6))
theorem k55_open {w : World} {x : S55} {cs : List Value} (h : k55.K w x cs) : ∃ A10 c10, cs = [.string x.f0, .int .i64 x.f1, .int .i64 x.f2.f0, .int .i64 x.f2.f1, .int .i64 x.f2.f2, .int .i64 x.f3.f0, .int .i64 x.f3.f1, .int .i64 x.f3.f2, .string x.f4, .int .i64 x.f5, .slice A10 x.f6.length c10] ∧ x.f6.length ≤ c10 ∧ Kd.string.C w A10 x.f6.length x.f6 := by
 obtain ⟨_, _, rfl, rfl, ⟨_, _, rfl, rfl, ⟨_, _, rfl, s2, ⟨_, _, rfl, s5, ⟨_, _, rfl, rfl, ⟨_, _, rfl, rfl, ⟨A10, c10, rfl, l10, g10⟩⟩⟩⟩⟩⟩⟩ := h
 obtain rfl := k52_open s2
 obtain rfl := k52_open s5
 exact ⟨A10, c10, rfl, l10, g10⟩
theorem k55_mk (w : World) (x : S55) {A10 : Option Addr} {c10 : Nat} (l10 : x.f6.length ≤ c10) (g10 : Kd.string.C w A10 x.f6.length x.f6) : k55.K w x [.string x.f0, .int .i64 x.f1, .int .i64 x.f2.f0, .int .i64 x.f2.f1, .int .i64 x.f2.f2, .int .i64 x.f3.f0, .int .i64 x.f3.f1, .int .i64 x.f3.f2, .string x.f4, .int .i64 x.f5, .slice A10 x.f6.length c10] := ⟨[.string x.f0], [.int .i64 x.f1, .int .i64 x.f2.f0, .int .i64 x.f2.f1, .int .i64 x.f2.f2, .int .i64 x.f3.f0, .int .i64 x.f3.f1, .int .i64 x.f3.f2, .string x.f4, .int .i64 x.f5, .slice A10 x.f6.length c10], rfl, rfl, ⟨[.int .i64 x.f1], [.int .i64 x.f2.f0, .int .i64 x.f2.f1, .int .i64 x.f2.f2, .int .i64 x.f3.f0, .int .i64 x.f3.f1, .int .i64 x.f3.f2, .string x.f4, .int .i64 x.f5, .slice A10 x.f6.length c10], rfl, rfl, ⟨[.int .i64 x.f2.f0, .int .i64 x.f2.f1, .int .i64 x.f2.f2], [.int .i64 x.f3.f0, .int .i64 x.f3.f1, .int .i64 x.f3.f2, .string x.f4, .int .i64 x.f5, .slice A10 x.f6.length c10], rfl, (k52_mk w x.f2 ), ⟨[.int .i64 x.f3.f0, .int .i64 x.f3.f1, .int .i64 x.f3.f2], [.string x.f4, .int .i64 x.f5, .slice A10 x.f6.length c10], rfl, (k52_mk w x.f3 ), ⟨[.string x.f4], [.int .i64 x.f5, .slice A10 x.f6.length c10], rfl, rfl, ⟨[.int .i64 x.f5], [.slice A10 x.f6.length c10], rfl, rfl, ⟨A10, c10, rfl, l10, g10⟩⟩⟩⟩⟩⟩⟩
theorem k55_mkM (w : World) (base : Nat) (ok : Nat → Prop) (x : S55) {v10 : Value} (g10 : Kd.string.R 9 w base ok v10 x.f6) : k55.M w base ok x [.string x.f0, .int .i64 x.f1, .int .i64 x.f2.f0, .int .i64 x.f2.f1, .int .i64 x.f2.f2, .int .i64 x.f3.f0, .int .i64 x.f3.f1, .int .i64 x.f3.f2, .string x.f4, .int .i64 x.f5, v10] := ⟨[.string x.f0], [.int .i64 x.f1, .int .i64 x.f2.f0, .int .i64 x.f2.f1, .int .i64 x.f2.f2, .int .i64 x.f3.f0, .int .i64 x.f3.f1, .int .i64 x.f3.f2, .string x.f4, .int .i64 x.f5, v10], rfl, rfl, ⟨[.int .i64 x.f1], [.int .i64 x.f2.f0, .int .i64 x.f2.f1, .int .i64 x.f2.f2, .int .i64 x.f3.f0, .int .i64 x.f3.f1, .int .i64 x.f3.f2, .string x.f4, .int .i64 x.f5, v10], rfl, rfl, ⟨[.int .i64 x.f2.f0, .int .i64 x.f2.f1, .int .i64 x.f2.f2], [.int .i64 x.f3.f0, .int .i64 x.f3.f1, .int .i64 x.f3.f2, .string x.f4, .int .i64 x.f5, v10], rfl, (k52_mkM w base ok x.f2 ), ⟨[.int .i64 x.f3.f0, .int .i64 x.f3.f1, .int .i64 x.f3.f2], [.string x.f4, .int .i64 x.f5, v10], rfl, (k52_mkM w base ok x.f3 ), ⟨[.string x.f4], [.int .i64 x.f5, v10], rfl, rfl, ⟨[.int .i64 x.f5], [v10], rfl, rfl, ⟨v10, rfl, g10⟩⟩⟩⟩⟩⟩⟩
def rd_T55 (xs : List S55) (i : Int) : S55 := xs.getD i.toNat z55
theorem at_T55 {w : World} {A : Option Addr} {n : Nat} {xs : List S55} (h : Kd.C k55 w A n xs) (i : Int) (h0 : 0 ≤ i) (h1 : i < n) : ∃ ad A10 c10, A = some ad ∧ w.cell? (ad.add (i.toNat * 11)) = some (.string (rd_T55 xs i).f0) ∧ w.cell? ⟨(ad.add (i.toNat * 11)).block, (ad.add (i.toNat * 11)).off + 1, none⟩ = some (.int .i64 (rd_T55 xs i).f1) ∧ w.cell? ⟨(ad.add (i.toNat * 11)).block, (ad.add (i.toNat * 11)).off + 2, none⟩ = some (.int .i64 (rd_T55 xs i).f2.f0) ∧ w.cell? ⟨(ad.add (i.toNat * 11)).block, (ad.add (i.toNat * 11)).off + 3, none⟩ = some (.int .i64 (rd_T55 xs i).f2.f1) ∧ w.cell? ⟨(ad.add (i.toNat * 11)).block, (ad.add (i.toNat * 11)).off + 4, none⟩ = some (.int .i64 (rd_T55 xs i).f2.f2) ∧ w.cell? ⟨(ad.add (i.toNat * 11)).block, (ad.add (i.toNat * 11)).off + 5, none⟩ = some (.int .i64 (rd_T55 xs i).f3.f0) ∧ w.cell? ⟨(ad.add (i.toNat * 11)).block, (ad.add (i.toNat * 11)).off + 6, none⟩ = some (.int .i64 (rd_T55 xs i).f3.f1) ∧ w.cell? ⟨(ad.add (i.toNat * 11)).block, (ad.add (i.toNat * 11)).off + 7, none⟩ = some (.int .i64 (rd_T55 xs i).f3.f2) ∧ w.cell? ⟨(ad.add (i.toNat * 11)).block, (ad.add (i.toNat * 11)).off + 8, none⟩ = some (.string (rd_T55 xs i).f4) ∧ w.cell? ⟨(ad.add (i.toNat * 11)).block, (ad.add (i.toNat * 11)).off + 9, none⟩ = some (.int .i64 (rd_T55 xs i).f5) ∧ w.cell? ⟨(ad.add (i.toNat * 11)).block, (ad.add (i.toNat * 11)).off + 10, none⟩ = some (.slice A10 (rd_T55 xs i).f6.length c10) ∧ (rd_T55 xs i).f6.length ≤ c10 ∧ Kd.string.C w A10 (rd_T55 xs i).f6.length (rd_T55 xs i).f6 := by
 obtain ⟨ad, c, e, _, hK, hc0⟩ := Kd.C_get h z55 i h0 h1
 have hc : ∀ j u, c[j]? = some u → w.cell? (ad.add (i.toNat * 11 + j)) = some u := hc0
 obtain ⟨A10, c10, rfl, l10, g10⟩ := k55_open hK
 exact ⟨ad, A10, c10, e, hc 0 _ rfl, by rw [← add_field _ _ 1 (by omega)]; exact hc 1 _ rfl, by rw [← add_field _ _ 2 (by omega)]; exact hc 2 _ rfl, by rw [← add_field _ _ 3 (by omega)]; exact hc 3 _ rfl, by rw [← add_field _ _ 4 (by omega)]; exact hc 4 _ rfl, by rw [← add_field _ _ 5 (by omega)]; exact hc 5 _ rfl, by rw [← add_field _ _ 6 (by omega)]; exact hc 6 _ rfl, by rw [← add_field _ _ 7 (by omega)]; exact hc 7 _ rfl, by rw [← add_field _ _ 8 (by omega)]; exact hc 8 _ rfl, by rw [← add_field _ _ 9 (by omega)]; exact hc 9 _ rfl, by rw [← add_field _ _ 10 (by omega)]; exact hc 10 _ rfl, l10, g10⟩

open Go.RowKit Go.Proofs.Ythokkeljfdfppaa.Gw Go.Proofs.YthokkeljfdfppaaW.PrintWords Go.Proofs.YthokkeljfdfppaaW.PrintLast Go.Proofs.YthokkeljfdfppaaW.PrintMore
attribute [local go_sem] max2_int min2_int max_two min_two max_three min_three max_four min_four   -- for this text's walks alone
set_option linter.unusedVariables false
set_option linter.unusedSimpArgs false

def abugidaref02_Reader_length.f (k : Nat) (s0_0 : ByteArray) (s0_1 : Int) (s0_2 : Bool) : Option (Int × ByteArray × Int × Bool) := (abugidaref02_Reader_Int.f k s0_0 s0_1 s0_2).bind fun bt354 => (if bt354.1 < 0 then ((abugidaref02_Reader_fail.f bt354.2.1 bt354.2.2.1 bt354.2.2.2).bind fun bt358 => (some (0, bt358.1, bt358.2.1, bt358.2.2))) else ((abugidaref02_Reader_Left.f bt354.2.1 bt354.2.2.1 bt354.2.2.2).bind fun bt361 => (if bt354.1 > bt361.1 then ((abugidaref02_Reader_fail.f bt361.2.1 bt361.2.2.1 bt361.2.2.2).bind fun bt365 => (some (0, bt365.1, bt365.2.1, bt365.2.2))) else (some (bt354.1, bt361.2.1, bt361.2.2.1, bt361.2.2.2)))))
set_option maxHeartbeats 8000000 in
set_option maxRecDepth 100000 in
theorem abugidaref02_Reader_length.calls (k : Nat) (g : Nat) (s0_0 : ByteArray) (s0_1 : Int) (s0_2 : Bool) (r1 : Int) (r2 : ByteArray) (r3 : Int) (r4 : Bool) (w0 w : World) (hI : IsS111 w0 w g s0_0 s0_1 s0_2) (hB : Below w0.heap.size w0 w) (h : abugidaref02_Reader_length.f k s0_0 s0_1 s0_2 = some (r1, r2, r3, r4)) :
 Calls Try.prog 98 #[.pointer (some ⟨g, 0, none⟩)] w fun e w' => e = .returned (.int .i64 r1) ∧ IsS111 w0 w' g r2 r3 r4 ∧ Below w0.heap.size w0 w' ∧ KeepBut w w' g none := by
 have HI0 := Aside0.mk hI
 have HK := Aside0.mk (KeepBut.refl w g none)
 have HL := Aside0.mk hB.size
 clear hI
 have HW0 := Aside0.mk hB.size
 have HB := Aside0.mk hB
 clear hB
 have H : ((abugidaref02_Reader_Int.f k s0_0 s0_1 s0_2).bind fun bt354 => (if bt354.1 < 0 then ((abugidaref02_Reader_fail.f bt354.2.1 bt354.2.2.1 bt354.2.2.2).bind fun bt358 => (some (0, bt358.1, bt358.2.1, bt358.2.2))) else ((abugidaref02_Reader_Left.f bt354.2.1 bt354.2.2.1 bt354.2.2.2).bind fun bt361 => (if bt354.1 > bt361.1 then ((abugidaref02_Reader_fail.f bt361.2.1 bt361.2.2.1 bt361.2.2.2).bind fun bt365 => (some (0, bt365.1, bt365.2.1, bt365.2.2))) else (some (bt354.1, bt361.2.1, bt361.2.2.1, bt361.2.2.2)))))) = some (r1, r2, r3, r4) := h
 clear h
 replace H := Option.bind_eq_some_iff.mp H
 obtain ⟨⟨t354, t355, t356, t357⟩, A20, H⟩ := H
 replace H : (if t354 < 0 then ((abugidaref02_Reader_fail.f t355 t356 t357).bind fun bt358 => (some (0, bt358.1, bt358.2.1, bt358.2.2))) else ((abugidaref02_Reader_Left.f t355 t356 t357).bind fun bt361 => (if t354 > bt361.1 then ((abugidaref02_Reader_fail.f bt361.2.1 bt361.2.2.1 bt361.2.2.2).bind fun bt365 => (some (0, bt365.1, bt365.2.1, bt365.2.2))) else (some (t354, bt361.2.1, bt361.2.2.1, bt361.2.2.2))))) = some (r1, r2, r3, r4) := H
 have A2 := Aside0.mk A20
 clear A20
 by_cases c3 : t354 < 0
 · rw [if_pos c3] at H
   have c3b0 : decide (t354 < 0) = true := decide_eq_true c3
   clear c3
   replace H := Option.bind_eq_some_iff.mp H
   obtain ⟨⟨t358, t359, t360⟩, A40, H⟩ := H
   replace H : (some (0, t358, t359, t360)) = some (r1, r2, r3, r4) := H
   have A4 := Aside0.mk A40
   clear A40
   simp only [Option.some.injEq, Prod.mk.injEq] at H
   obtain ⟨rfl, rfl, rfl, rfl⟩ := H
   go_enter Try.func98, Try.ntmps98
   go_wp2_with (first | ((with_reducible refine gate_callee (f := 67) rfl ?_); refine goesL_ (some 5) rfl rfl Try.func67 (by kernel_rfl) rfl #[.pointer (some ⟨g, 0, none⟩)] rfl zam3 ?_; (with_reducible refine (abugidaref02_Reader_Int.calls k g s0_0 s0_1 s0_2 t354 t355 t356 t357 w0 _ ?side1 ?side2 A2.out).mono ?_); (case side1 => exact zam0); (case side2 => exact zam1); rintro e w5 ⟨rfl, hi, hb, hk⟩; refine ⟨_, rfl, ?_⟩; have n0_ := Aside0.mk (KeepBut.trans zam2 hk (.inl rfl)); have n1_ := Aside0.mk (hb); have n2_ := Aside0.mk (hi); clear HK; clear HB; clear HI0; have HK := n0_; have HB := n1_; have HI0 := n2_; clear n0_ n1_ n2_; (try clear hb); (try clear hb2); (try clear hk); (try clear hi)) | ((with_reducible refine gate_callee (f := 100) rfl ?_); refine goesL_ (some 15) rfl rfl Try.func100 (by kernel_rfl) rfl #[.pointer (some ⟨g, 0, none⟩)] rfl zam3 ?_; (with_reducible refine (abugidaref02_Reader_fail.calls g t355 t356 t357 t358 t359 t360 w0 _ ?side1 ?side2 A4.out).mono ?_); (case side1 => exact zam0); (case side2 => exact zam1); rintro e w6 ⟨rfl, hi, hb, hk⟩; refine ⟨_, rfl, ?_⟩; have n0_ := Aside0.mk (KeepBut.trans zam2 hk (.inl rfl)); have n1_ := Aside0.mk (hb); have n2_ := Aside0.mk (hi); clear HK; clear HB; clear HI0; have HK := n0_; have HB := n1_; have HI0 := n2_; clear n0_ n1_ n2_; (try clear hb); (try clear hb2); (try clear hk); (try clear hi)))
   go_ret
   exact ⟨zam5, zam0, zam1, zam2⟩
 · rw [if_neg c3] at H
   have c3b0 : decide (t354 < 0) = false := decide_eq_false c3
   clear c3
   replace H := Option.bind_eq_some_iff.mp H
   obtain ⟨⟨t361, t362, t363, t364⟩, A70, H⟩ := H
   replace H : (if t354 > t361 then ((abugidaref02_Reader_fail.f t362 t363 t364).bind fun bt365 => (some (0, bt365.1, bt365.2.1, bt365.2.2))) else (some (t354, t362, t363, t364))) = some (r1, r2, r3, r4) := H
   have A7 := Aside0.mk A70
   clear A70
   by_cases c8 : t354 > t361
   · rw [if_pos c8] at H
     have c8b0 : decide (t361 < t354) = true := decide_eq_true c8
     clear c8
     replace H := Option.bind_eq_some_iff.mp H
     obtain ⟨⟨t365, t366, t367⟩, A90, H⟩ := H
     replace H : (some (0, t365, t366, t367)) = some (r1, r2, r3, r4) := H
     have A9 := Aside0.mk A90
     clear A90
     simp only [Option.some.injEq, Prod.mk.injEq] at H
     obtain ⟨rfl, rfl, rfl, rfl⟩ := H
     go_enter Try.func98, Try.ntmps98
     go_wp2_with (first | ((with_reducible refine gate_callee (f := 67) rfl ?_); refine goesL_ (some 5) rfl rfl Try.func67 (by kernel_rfl) rfl #[.pointer (some ⟨g, 0, none⟩)] rfl zam3 ?_; (with_reducible refine (abugidaref02_Reader_Int.calls k g s0_0 s0_1 s0_2 t354 t355 t356 t357 w0 _ ?side1 ?side2 A2.out).mono ?_); (case side1 => exact zam0); (case side2 => exact zam1); rintro e w10 ⟨rfl, hi, hb, hk⟩; refine ⟨_, rfl, ?_⟩; have n0_ := Aside0.mk (KeepBut.trans zam2 hk (.inl rfl)); have n1_ := Aside0.mk (hb); have n2_ := Aside0.mk (hi); clear HK; clear HB; clear HI0; have HK := n0_; have HB := n1_; have HI0 := n2_; clear n0_ n1_ n2_; (try clear hb); (try clear hb2); (try clear hk); (try clear hi)) | (go_at_call 69; (with_reducible refine (abugidaref02_Reader_Left.calls g t355 t356 t357 t361 t362 t363 t364 w0 _ ?side1 ?side2 A7.out).mono ?_); (case side1 => exact zam0); (case side2 => exact zam1); rintro e w11 ⟨rfl, hi, hb, hk⟩; have n0_ := Aside0.mk (KeepBut.trans zam2 hk (.inl rfl)); have n1_ := Aside0.mk (hb); have n2_ := Aside0.mk (hi); clear HK; clear HB; clear HI0; have HK := n0_; have HB := n1_; have HI0 := n2_; clear n0_ n1_ n2_; (try clear hb); (try clear hb2); (try clear hk); (try clear hi)) | ((with_reducible refine gate_callee (f := 100) rfl ?_); refine goesL_ (some 15) rfl rfl Try.func100 (by kernel_rfl) rfl #[.pointer (some ⟨g, 0, none⟩)] rfl zam3 ?_; (with_reducible refine (abugidaref02_Reader_fail.calls g t362 t363 t364 t365 t366 t367 w0 _ ?side1 ?side2 A9.out).mono ?_); (case side1 => exact zam0); (case side2 => exact zam1); rintro e w12 ⟨rfl, hi, hb, hk⟩; refine ⟨_, rfl, ?_⟩; have n0_ := Aside0.mk (KeepBut.trans zam2 hk (.inl rfl)); have n1_ := Aside0.mk (hb); have n2_ := Aside0.mk (hi); clear HK; clear HB; clear HI0; have HK := n0_; have HB := n1_; have HI0 := n2_; clear n0_ n1_ n2_; (try clear hb); (try clear hb2); (try clear hk); (try clear hi)))
     go_ret
     exact ⟨zam5, zam0, zam1, zam2⟩
   · rw [if_neg c8] at H
     have c8b0 : decide (t361 < t354) = false := decide_eq_false c8
     clear c8
     simp only [Option.some.injEq, Prod.mk.injEq] at H
     obtain ⟨rfl, rfl, rfl, rfl⟩ := H
     go_enter Try.func98, Try.ntmps98
     go_wp2_with (first | ((with_reducible refine gate_callee (f := 67) rfl ?_); refine goesL_ (some 5) rfl rfl Try.func67 (by kernel_rfl) rfl #[.pointer (some ⟨g, 0, none⟩)] rfl zam3 ?_; (with_reducible refine (abugidaref02_Reader_Int.calls k g s0_0 s0_1 s0_2 t354 t355 t356 t357 w0 _ ?side1 ?side2 A2.out).mono ?_); (case side1 => exact zam0); (case side2 => exact zam1); rintro e w13 ⟨rfl, hi, hb, hk⟩; refine ⟨_, rfl, ?_⟩; have n0_ := Aside0.mk (KeepBut.trans zam2 hk (.inl rfl)); have n1_ := Aside0.mk (hb); have n2_ := Aside0.mk (hi); clear HK; clear HB; clear HI0; have HK := n0_; have HB := n1_; have HI0 := n2_; clear n0_ n1_ n2_; (try clear hb); (try clear hb2); (try clear hk); (try clear hi)) | (go_at_call 69; (with_reducible refine (abugidaref02_Reader_Left.calls g t355 t356 t357 t361 t362 t363 t364 w0 _ ?side1 ?side2 A7.out).mono ?_); (case side1 => exact zam0); (case side2 => exact zam1); rintro e w14 ⟨rfl, hi, hb, hk⟩; have n0_ := Aside0.mk (KeepBut.trans zam2 hk (.inl rfl)); have n1_ := Aside0.mk (hb); have n2_ := Aside0.mk (hi); clear HK; clear HB; clear HI0; have HK := n0_; have HB := n1_; have HI0 := n2_; clear n0_ n1_ n2_; (try clear hb); (try clear hb2); (try clear hk); (try clear hi)))
     go_ret
     exact ⟨zam5, zam0, zam1, zam2⟩

def abugidaref02_Reader_Text.f (k : Nat) (s0_0 : ByteArray) (s0_1 : Int) (s0_2 : Bool) : Option (ByteArray × ByteArray × Int × Bool) := (abugidaref02_Reader_length.f k s0_0 s0_1 s0_2).bind fun bt368 => ((abugidaref02_Reader_Bad.f bt368.2.1 bt368.2.2.1 bt368.2.2.2).bind fun bt372 => (if bt372.1 = true then (some ((⟨#[]⟩ : ByteArray), bt372.2.1, bt372.2.2.1, bt372.2.2.2)) else (if 0 ≤ (wrap64 ((wrap64 (bt372.2.2.1 + bt368.1)) - bt368.1)) then (if (wrap64 ((wrap64 (bt372.2.2.1 + bt368.1)) - bt368.1)) ≤ (wrap64 (bt372.2.2.1 + bt368.1)) then (if (wrap64 (bt372.2.2.1 + bt368.1)) ≤ (bt372.2.1.size : Int) then (some (bt372.2.1.extract ((wrap64 ((wrap64 (bt372.2.2.1 + bt368.1)) - bt368.1)) : Int).toNat ((wrap64 (bt372.2.2.1 + bt368.1)) : Int).toNat, bt372.2.1, wrap64 (bt372.2.2.1 + bt368.1), bt372.2.2.2)) else (none)) else (none)) else (none))))
set_option maxHeartbeats 8000000 in
set_option maxRecDepth 100000 in
theorem abugidaref02_Reader_Text.calls (k : Nat) (g : Nat) (s0_0 : ByteArray) (s0_1 : Int) (s0_2 : Bool) (r1 : ByteArray) (r2 : ByteArray) (r3 : Int) (r4 : Bool) (w0 w : World) (hI : IsS111 w0 w g s0_0 s0_1 s0_2) (hB : Below w0.heap.size w0 w) (h : abugidaref02_Reader_Text.f k s0_0 s0_1 s0_2 = some (r1, r2, r3, r4)) :
 Calls Try.prog 66 #[.pointer (some ⟨g, 0, none⟩)] w fun e w' => e = .returned (.string r1) ∧ IsS111 w0 w' g r2 r3 r4 ∧ Below w0.heap.size w0 w' ∧ KeepBut w w' g none := by
 have HI0 := Aside0.mk hI
 have HK := Aside0.mk (KeepBut.refl w g none)
 have HL := Aside0.mk hB.size
 clear hI
 have HW0 := Aside0.mk hB.size
 have HB := Aside0.mk hB
 clear hB
 have H : ((abugidaref02_Reader_length.f k s0_0 s0_1 s0_2).bind fun bt368 => ((abugidaref02_Reader_Bad.f bt368.2.1 bt368.2.2.1 bt368.2.2.2).bind fun bt372 => (if bt372.1 = true then (some ((⟨#[]⟩ : ByteArray), bt372.2.1, bt372.2.2.1, bt372.2.2.2)) else (if 0 ≤ (wrap64 ((wrap64 (bt372.2.2.1 + bt368.1)) - bt368.1)) then (if (wrap64 ((wrap64 (bt372.2.2.1 + bt368.1)) - bt368.1)) ≤ (wrap64 (bt372.2.2.1 + bt368.1)) then (if (wrap64 (bt372.2.2.1 + bt368.1)) ≤ (bt372.2.1.size : Int) then (some (bt372.2.1.extract ((wrap64 ((wrap64 (bt372.2.2.1 + bt368.1)) - bt368.1)) : Int).toNat ((wrap64 (bt372.2.2.1 + bt368.1)) : Int).toNat, bt372.2.1, wrap64 (bt372.2.2.1 + bt368.1), bt372.2.2.2)) else (none)) else (none)) else (none))))) = some (r1, r2, r3, r4) := h
 clear h
 replace H := Option.bind_eq_some_iff.mp H
 obtain ⟨⟨t368, t369, t370, t371⟩, A20, H⟩ := H
 replace H : ((abugidaref02_Reader_Bad.f t369 t370 t371).bind fun bt372 => (if bt372.1 = true then (some ((⟨#[]⟩ : ByteArray), bt372.2.1, bt372.2.2.1, bt372.2.2.2)) else (if 0 ≤ (wrap64 ((wrap64 (bt372.2.2.1 + t368)) - t368)) then (if (wrap64 ((wrap64 (bt372.2.2.1 + t368)) - t368)) ≤ (wrap64 (bt372.2.2.1 + t368)) then (if (wrap64 (bt372.2.2.1 + t368)) ≤ (bt372.2.1.size : Int) then (some (bt372.2.1.extract ((wrap64 ((wrap64 (bt372.2.2.1 + t368)) - t368)) : Int).toNat ((wrap64 (bt372.2.2.1 + t368)) : Int).toNat, bt372.2.1, wrap64 (bt372.2.2.1 + t368), bt372.2.2.2)) else (none)) else (none)) else (none)))) = some (r1, r2, r3, r4) := H
 have A2 := Aside0.mk A20
 clear A20
 replace H := Option.bind_eq_some_iff.mp H
 obtain ⟨⟨t372, t373, t374, t375⟩, A30, H⟩ := H
 replace H : (if t372 = true then (some ((⟨#[]⟩ : ByteArray), t373, t374, t375)) else (if 0 ≤ (wrap64 ((wrap64 (t374 + t368)) - t368)) then (if (wrap64 ((wrap64 (t374 + t368)) - t368)) ≤ (wrap64 (t374 + t368)) then (if (wrap64 (t374 + t368)) ≤ (t373.size : Int) then (some (t373.extract ((wrap64 ((wrap64 (t374 + t368)) - t368)) : Int).toNat ((wrap64 (t374 + t368)) : Int).toNat, t373, wrap64 (t374 + t368), t375)) else (none)) else (none)) else (none))) = some (r1, r2, r3, r4) := H
 have A3 := Aside0.mk A30
 clear A30
 by_cases c4 : t372 = true
 · subst c4
   have H1 : (some ((⟨#[]⟩ : ByteArray), t373, t374, t375)) = some (r1, r2, r3, r4) := by rw [if_pos rfl] at H; exact H
   clear H
   have H := H1
   clear H1
   simp only [Option.some.injEq, Prod.mk.injEq] at H
   obtain ⟨rfl, rfl, rfl, rfl⟩ := H
   go_enter Try.func66, Try.ntmps66
   go_wp2_with (first | (go_at_call 98; (with_reducible refine (abugidaref02_Reader_length.calls k g s0_0 s0_1 s0_2 t368 t369 t370 t371 w0 _ ?side1 ?side2 A2.out).mono ?_); (case side1 => exact zam0); (case side2 => exact zam1); rintro e w5 ⟨rfl, hi, hb, hk⟩; have n0_ := Aside0.mk (KeepBut.trans zam2 hk (.inl rfl)); have n1_ := Aside0.mk (hb); have n2_ := Aside0.mk (hi); clear HK; clear HB; clear HI0; have HK := n0_; have HB := n1_; have HI0 := n2_; clear n0_ n1_ n2_; (try clear hb); (try clear hb2); (try clear hk); (try clear hi)) | (go_at_call 99; (with_reducible refine (abugidaref02_Reader_Bad.calls g t369 t370 t371 true t373 t374 t375 w0 _ ?side1 ?side2 A3.out).mono ?_); (case side1 => exact zam0); (case side2 => exact zam1); rintro e w6 ⟨rfl, hi, hb, hk⟩; have n0_ := Aside0.mk (KeepBut.trans zam2 hk (.inl rfl)); have n1_ := Aside0.mk (hb); have n2_ := Aside0.mk (hi); clear HK; clear HB; clear HI0; have HK := n0_; have HB := n1_; have HI0 := n2_; clear n0_ n1_ n2_; (try clear hb); (try clear hb2); (try clear hk); (try clear hi)))
   repeat (go_quiet (first | (go_at_call 98; (with_reducible refine (abugidaref02_Reader_length.calls k g s0_0 s0_1 s0_2 t368 t369 t370 t371 w0 _ ?side1 ?side2 A2.out).mono ?_); (case side1 => exact zam0); (case side2 => exact zam1); rintro e w5 ⟨rfl, hi, hb, hk⟩; have n0_ := Aside0.mk (KeepBut.trans zam2 hk (.inl rfl)); have n1_ := Aside0.mk (hb); have n2_ := Aside0.mk (hi); clear HK; clear HB; clear HI0; have HK := n0_; have HB := n1_; have HI0 := n2_; clear n0_ n1_ n2_; (try clear hb); (try clear hb2); (try clear hk); (try clear hi)) | (go_at_call 99; (with_reducible refine (abugidaref02_Reader_Bad.calls g t369 t370 t371 true t373 t374 t375 w0 _ ?side1 ?side2 A3.out).mono ?_); (case side1 => exact zam0); (case side2 => exact zam1); rintro e w6 ⟨rfl, hi, hb, hk⟩; have n0_ := Aside0.mk (KeepBut.trans zam2 hk (.inl rfl)); have n1_ := Aside0.mk (hb); have n2_ := Aside0.mk (hi); clear HK; clear HB; clear HI0; have HK := n0_; have HB := n1_; have HI0 := n2_; clear n0_ n1_ n2_; (try clear hb); (try clear hb2); (try clear hk); (try clear hi))); try go_wp2_with (first | (go_at_call 98; (with_reducible refine (abugidaref02_Reader_length.calls k g s0_0 s0_1 s0_2 t368 t369 t370 t371 w0 _ ?side1 ?side2 A2.out).mono ?_); (case side1 => exact zam0); (case side2 => exact zam1); rintro e w5 ⟨rfl, hi, hb, hk⟩; have n0_ := Aside0.mk (KeepBut.trans zam2 hk (.inl rfl)); have n1_ := Aside0.mk (hb); have n2_ := Aside0.mk (hi); clear HK; clear HB; clear HI0; have HK := n0_; have HB := n1_; have HI0 := n2_; clear n0_ n1_ n2_; (try clear hb); (try clear hb2); (try clear hk); (try clear hi)) | (go_at_call 99; (with_reducible refine (abugidaref02_Reader_Bad.calls g t369 t370 t371 true t373 t374 t375 w0 _ ?side1 ?side2 A3.out).mono ?_); (case side1 => exact zam0); (case side2 => exact zam1); rintro e w6 ⟨rfl, hi, hb, hk⟩; have n0_ := Aside0.mk (KeepBut.trans zam2 hk (.inl rfl)); have n1_ := Aside0.mk (hb); have n2_ := Aside0.mk (hi); clear HK; clear HB; clear HI0; have HK := n0_; have HB := n1_; have HI0 := n2_; clear n0_ n1_ n2_; (try clear hb); (try clear hb2); (try clear hk); (try clear hi))))
   go_ret
   exact ⟨zam5, zam0, zam1, zam2⟩
 · replace c4 := Bool.eq_false_iff.mpr c4
   subst c4
   have H1 : (if 0 ≤ (wrap64 ((wrap64 (t374 + t368)) - t368)) then (if (wrap64 ((wrap64 (t374 + t368)) - t368)) ≤ (wrap64 (t374 + t368)) then (if (wrap64 (t374 + t368)) ≤ (t373.size : Int) then (some (t373.extract ((wrap64 ((wrap64 (t374 + t368)) - t368)) : Int).toNat ((wrap64 (t374 + t368)) : Int).toNat, t373, wrap64 (t374 + t368), t375)) else (none)) else (none)) else (none)) = some (r1, r2, r3, r4) := by rw [if_neg (show ¬ (false = true) by decide)] at H; exact H
   clear H
   have H := H1
   clear H1
   obtain ⟨ji7, hji7⟩ : ∃ j_ : Int, (wrap64 ((wrap64 (t374 + t368)) - t368)) = j_ := ⟨_, rfl⟩
   replace H : (if 0 ≤ (ji7) then (if (ji7) ≤ (wrap64 (t374 + t368)) then (if (wrap64 (t374 + t368)) ≤ (t373.size : Int) then (some (t373.extract ((ji7) : Int).toNat ((wrap64 (t374 + t368)) : Int).toNat, t373, wrap64 (t374 + t368), t375)) else (none)) else (none)) else (none)) = some (r1, r2, r3, r4) := by first | (rw [hji7] at H; exact H) | (simp only [hji7] at H ⊢; exact H)
   (try rw [hji7] at A2)
   (try rw [hji7] at A3)
   have hji7w : (IntKind.i64.wrap ((wrap64 (t374 + t368)) - t368)) = ji7 := (i64_w _).trans hji7
   by_cases c8 : 0 ≤ (ji7)
   · rw [if_pos c8] at H
     have c8b0 := eq_true c8
     have c8b1 : decide (0 ≤ (ji7)) = true := decide_eq_true c8
     clear c8
     by_cases c9 : (ji7) ≤ (wrap64 (t374 + t368))
     · rw [if_pos c9] at H
       have c9b0 := eq_true c9
       have c9b1 : decide ((ji7) ≤ (wrap64 (t374 + t368))) = true := decide_eq_true c9
       by_cases c10 : (wrap64 (t374 + t368)) ≤ (t373.size : Int)
       · rw [if_pos c10] at H
         have c10b0 := eq_true c10
         have c10b1 : decide ((wrap64 (t374 + t368)) ≤ (t373.size : Int)) = true := decide_eq_true c10
         simp only [Option.some.injEq, Prod.mk.injEq] at H
         obtain ⟨rfl, rfl, rfl, rfl⟩ := H
         go_enter Try.func66, Try.ntmps66
         go_wp2_with (first | (go_at_call 98; (with_reducible refine (abugidaref02_Reader_length.calls k g s0_0 s0_1 s0_2 t368 t369 t370 t371 w0 _ ?side1 ?side2 A2.out).mono ?_); (case side1 => exact zam0); (case side2 => exact zam1); rintro e w11 ⟨rfl, hi, hb, hk⟩; have n0_ := Aside0.mk (KeepBut.trans zam2 hk (.inl rfl)); have n1_ := Aside0.mk (hb); have n2_ := Aside0.mk (hi); clear HK; clear HB; clear HI0; have HK := n0_; have HB := n1_; have HI0 := n2_; clear n0_ n1_ n2_; (try clear hb); (try clear hb2); (try clear hk); (try clear hi)) | (go_at_call 99; (with_reducible refine (abugidaref02_Reader_Bad.calls g t369 t370 t371 false t373 t374 t375 w0 _ ?side1 ?side2 A3.out).mono ?_); (case side1 => exact zam0); (case side2 => exact zam1); rintro e w12 ⟨rfl, hi, hb, hk⟩; have n0_ := Aside0.mk (KeepBut.trans zam2 hk (.inl rfl)); have n1_ := Aside0.mk (hb); have n2_ := Aside0.mk (hi); clear HK; clear HB; clear HI0; have HK := n0_; have HB := n1_; have HI0 := n2_; clear n0_ n1_ n2_; (try clear hb); (try clear hb2); (try clear hk); (try clear hi); obtain ⟨HGz13, hgz13⟩ := HI0.out; have hcz13_0 := cellS111_0 HGz13; have hcz13_1 := cellS111_1 HGz13; have hcz13_2 := cellS111_2 HGz13; have hfz13_0 := blk_frozen HGz13 0; have hfz13_1 := blk_frozen HGz13 1; have hfz13_2 := blk_frozen HGz13 2; clear HGz13 hgz13))
         repeat (go_quiet (first | (go_at_call 98; (with_reducible refine (abugidaref02_Reader_length.calls k g s0_0 s0_1 s0_2 t368 t369 t370 t371 w0 _ ?side1 ?side2 A2.out).mono ?_); (case side1 => exact zam0); (case side2 => exact zam1); rintro e w11 ⟨rfl, hi, hb, hk⟩; have n0_ := Aside0.mk (KeepBut.trans zam2 hk (.inl rfl)); have n1_ := Aside0.mk (hb); have n2_ := Aside0.mk (hi); clear HK; clear HB; clear HI0; have HK := n0_; have HB := n1_; have HI0 := n2_; clear n0_ n1_ n2_; (try clear hb); (try clear hb2); (try clear hk); (try clear hi)) | (go_at_call 99; (with_reducible refine (abugidaref02_Reader_Bad.calls g t369 t370 t371 false t373 t374 t375 w0 _ ?side1 ?side2 A3.out).mono ?_); (case side1 => exact zam0); (case side2 => exact zam1); rintro e w12 ⟨rfl, hi, hb, hk⟩; have n0_ := Aside0.mk (KeepBut.trans zam2 hk (.inl rfl)); have n1_ := Aside0.mk (hb); have n2_ := Aside0.mk (hi); clear HK; clear HB; clear HI0; have HK := n0_; have HB := n1_; have HI0 := n2_; clear n0_ n1_ n2_; (try clear hb); (try clear hb2); (try clear hk); (try clear hi); obtain ⟨HGz13, hgz13⟩ := HI0.out; have hcz13_0 := cellS111_0 HGz13; have hcz13_1 := cellS111_1 HGz13; have hcz13_2 := cellS111_2 HGz13; have hfz13_0 := blk_frozen HGz13 0; have hfz13_1 := blk_frozen HGz13 1; have hfz13_2 := blk_frozen HGz13 2; clear HGz13 hgz13)); try go_wp2_with (first | (go_at_call 98; (with_reducible refine (abugidaref02_Reader_length.calls k g s0_0 s0_1 s0_2 t368 t369 t370 t371 w0 _ ?side1 ?side2 A2.out).mono ?_); (case side1 => exact zam0); (case side2 => exact zam1); rintro e w11 ⟨rfl, hi, hb, hk⟩; have n0_ := Aside0.mk (KeepBut.trans zam2 hk (.inl rfl)); have n1_ := Aside0.mk (hb); have n2_ := Aside0.mk (hi); clear HK; clear HB; clear HI0; have HK := n0_; have HB := n1_; have HI0 := n2_; clear n0_ n1_ n2_; (try clear hb); (try clear hb2); (try clear hk); (try clear hi)) | (go_at_call 99; (with_reducible refine (abugidaref02_Reader_Bad.calls g t369 t370 t371 false t373 t374 t375 w0 _ ?side1 ?side2 A3.out).mono ?_); (case side1 => exact zam0); (case side2 => exact zam1); rintro e w12 ⟨rfl, hi, hb, hk⟩; have n0_ := Aside0.mk (KeepBut.trans zam2 hk (.inl rfl)); have n1_ := Aside0.mk (hb); have n2_ := Aside0.mk (hi); clear HK; clear HB; clear HI0; have HK := n0_; have HB := n1_; have HI0 := n2_; clear n0_ n1_ n2_; (try clear hb); (try clear hb2); (try clear hk); (try clear hi); obtain ⟨HGz13, hgz13⟩ := HI0.out; have hcz13_0 := cellS111_0 HGz13; have hcz13_1 := cellS111_1 HGz13; have hcz13_2 := cellS111_2 HGz13; have hfz13_0 := blk_frozen HGz13 0; have hfz13_1 := blk_frozen HGz13 1; have hfz13_2 := blk_frozen HGz13 2; clear HGz13 hgz13)))
         go_ret
         exact ⟨by first | rfl | (simp [errW_none, errW_some] <;> rfl) | (simp only [← hji7]; first | rfl | (simp [errW_none, errW_some] <;> rfl)) | (simp [*, errW_none, errW_some] <;> rfl), zam0, zam1, zam2⟩
       · rw [if_neg c10] at H
         exact absurd H (by simp)
     · rw [if_neg c9] at H
       exact absurd H (by simp)
   · rw [if_neg c8] at H
     exact absurd H (by simp)

def abugidaref02_Reader_Texts.l0 : Nat → Int → List ByteArray → Int → ByteArray → Int → Bool → Option (List ByteArray × ByteArray × Int × Bool)
 | 0, _, _, _, _, _, _ => none
 | k + 1, x3, x4, x5, x1000, x1001, x1002 => if x5 < x3 then ((abugidaref02_Reader_Text.f k x1000 x1001 x1002).bind fun bt417 => ((abugidaref02_Reader_Bad.f bt417.2.1 bt417.2.2.1 bt417.2.2.2).bind fun bt421 => (if bt421.1 = true then (some (([] : List ByteArray), bt421.2.1, bt421.2.2.1, bt421.2.2.2)) else (if x4.length < 8796093022208 then (abugidaref02_Reader_Texts.l0 k x3 (x4 ++ [bt417.1]) (wrap64 (x5 + 1)) bt421.2.1 bt421.2.2.1 bt421.2.2.2) else (none))))) else (some (x4, x1000, x1001, x1002))
def abugidaref02_Reader_Texts.f (k : Nat) (s0_0 : ByteArray) (s0_1 : Int) (s0_2 : Bool) : Option (List ByteArray × ByteArray × Int × Bool) := (abugidaref02_Reader_length.f k s0_0 s0_1 s0_2).bind fun bt413 => (abugidaref02_Reader_Texts.l0 k bt413.1 ([] : List ByteArray) 0 bt413.2.1 bt413.2.2.1 bt413.2.2.2)
set_option maxHeartbeats 8000000 in
set_option maxRecDepth 100000 in
theorem abugidaref02_Reader_Texts.calls (k : Nat) (g : Nat) (s0_0 : ByteArray) (s0_1 : Int) (s0_2 : Bool) (r1 : List ByteArray) (r2 : ByteArray) (r3 : Int) (r4 : Bool) (w0 w : World) (hI : IsS111 w0 w g s0_0 s0_1 s0_2) (hB : Below w0.heap.size w0 w) (h : abugidaref02_Reader_Texts.f k s0_0 s0_1 s0_2 = some (r1, r2, r3, r4)) :
 Calls Try.prog 68 #[.pointer (some ⟨g, 0, none⟩)] w fun e w' => ∃ v0_ : Value, e = .returned (v0_) ∧ Kd.R Kd.string 9 w' w.heap.size (fun _ => True) v0_ r1 ∧ IsS111 w0 w' g r2 r3 r4 ∧ Below w0.heap.size w0 w' ∧ KeepBut w w' g none := by
 have HI0 := Aside0.mk hI
 have HK := Aside0.mk (KeepBut.refl w g none)
 have HL := Aside0.mk hB.size
 clear hI
 have HW0 := Aside0.mk hB.size
 have HB := Aside0.mk hB
 clear hB
 have H : ((abugidaref02_Reader_length.f k s0_0 s0_1 s0_2).bind fun bt413 => (abugidaref02_Reader_Texts.l0 k bt413.1 ([] : List ByteArray) 0 bt413.2.1 bt413.2.2.1 bt413.2.2.2)) = some (r1, r2, r3, r4) := h
 clear h
 replace H := Option.bind_eq_some_iff.mp H
 obtain ⟨⟨t413, t414, t415, t416⟩, A20, H⟩ := H
 replace H : (abugidaref02_Reader_Texts.l0 k t413 ([] : List ByteArray) 0 t414 t415 t416) = some (r1, r2, r3, r4) := H
 have A2 := Aside0.mk A20
 clear A20
 have H' := Aside0.mk H
 clear H
 go_enter Try.func68, Try.ntmps68
 go_wp2_with (first | ((with_reducible refine gate_callee (f := 98) rfl ?_); refine goesL_ (some 8) rfl rfl Try.func98 (by kernel_rfl) rfl #[.pointer (some ⟨g, 0, none⟩)] rfl zam3 ?_; (with_reducible refine (abugidaref02_Reader_length.calls k g s0_0 s0_1 s0_2 t413 t414 t415 t416 w0 _ ?side1 ?side2 A2.out).mono ?_); (case side1 => exact zam0); (case side2 => exact zam1); rintro e w3 ⟨rfl, hi, hb, hk⟩; refine ⟨_, rfl, ?_⟩; have n0_ := Aside0.mk (KeepBut.trans zam2 hk (.inl rfl)); have n1_ := Aside0.mk (hb); have n2_ := Aside0.mk (hi); clear HK; clear HB; clear HI0; have HK := n0_; have HB := n1_; have HI0 := n2_; clear n0_ n1_ n2_; (try clear hb); (try clear hb2); (try clear hk); (try clear hi)))
 go_loopg [4, 5] k (fun kq v4 v5 w' => ∃ (x4_1 : List ByteArray) (x5_1 : Int) (x1000_1 : ByteArray) (x1001_1 : Int) (x1002_1 : Bool), v5 = .int .i64 x5_1 ∧ Aside0 (abugidaref02_Reader_Texts.l0 kq t413 x4_1 x5_1 x1000_1 x1001_1 x1002_1 = some (r1, r2, r3, r4)) ∧ Aside0 (kq ≤ k) ∧ Aside0 (Kd.R Kd.string 9 w' w.heap.size (fun _ => True) v4 x4_1) ∧ Aside0 (IsS111 w0 w' g x1000_1 x1001_1 x1002_1) ∧ Aside0 (KeepBut w w' g none) ∧ Aside0 (Below w0.heap.size w0 w'))
 case atStart => exact ⟨(([] : List ByteArray)), (0), (t414), (t415), (t416), zam7, H', ⟨Nat.le_refl _⟩, ⟨zam6⟩, ⟨zam0⟩, ⟨zam2⟩, ⟨zam1⟩⟩
 case round =>
  clear H'
  try clear p2
  obtain ⟨x4_1, x5_1, x1000_1, x1001_1, x1002_1, rfl, HA, HK1, HO_4, HI0, HK, HB⟩ := hrel
  cases gk with
  | zero => exact absurd HA.out (by simp [abugidaref02_Reader_Texts.l0])
  | succ k1 =>
    have H := HA.out
    clear HA
    simp only [abugidaref02_Reader_Texts.l0] at H
    by_cases c4 : x5_1 < t413
    · rw [if_pos c4] at H
      have c4b0 : decide (x5_1 < t413) = true := decide_eq_true c4
      clear c4
      replace H := Option.bind_eq_some_iff.mp H
      obtain ⟨⟨t417, t418, t419, t420⟩, A50, H⟩ := H
      replace H : ((abugidaref02_Reader_Bad.f t418 t419 t420).bind fun bt421 => (if bt421.1 = true then (some (([] : List ByteArray), bt421.2.1, bt421.2.2.1, bt421.2.2.2)) else (if x4_1.length < 8796093022208 then (abugidaref02_Reader_Texts.l0 k1 t413 (x4_1 ++ [t417]) (wrap64 (x5_1 + 1)) bt421.2.1 bt421.2.2.1 bt421.2.2.2) else (none)))) = some (r1, r2, r3, r4) := H
      have A5 := Aside0.mk A50
      clear A50
      replace H := Option.bind_eq_some_iff.mp H
      obtain ⟨⟨t421, t422, t423, t424⟩, A60, H⟩ := H
      replace H : (if t421 = true then (some (([] : List ByteArray), t422, t423, t424)) else (if x4_1.length < 8796093022208 then (abugidaref02_Reader_Texts.l0 k1 t413 (x4_1 ++ [t417]) (wrap64 (x5_1 + 1)) t422 t423 t424) else (none))) = some (r1, r2, r3, r4) := H
      have A6 := Aside0.mk A60
      clear A60
      by_cases c7 : t421 = true
      · subst c7
        have H1 : (some (([] : List ByteArray), t422, t423, t424)) = some (r1, r2, r3, r4) := by rw [if_pos rfl] at H; exact H
        clear H
        have H := H1
        clear H1
        simp only [Option.some.injEq, Prod.mk.injEq] at H
        obtain ⟨rfl, rfl, rfl, rfl⟩ := H
        go_wp2_with (first | ((with_reducible refine gate_callee (f := 66) rfl ?_); refine goesL_ (some 15) rfl rfl Try.func66 (by kernel_rfl) rfl #[.pointer (some ⟨g, 0, none⟩)] rfl zam3 ?_; (with_reducible refine (abugidaref02_Reader_Text.calls k1 g x1000_1 x1001_1 x1002_1 t417 t418 t419 t420 w0 _ ?side1 ?side2 A5.out).mono ?_); (case side1 => exact zam0); (case side2 => exact zam1); rintro e w8 ⟨rfl, hi, hb, hk⟩; refine ⟨_, rfl, ?_⟩; have n0_ := Aside0.mk (Kd.R_mono (Kd.R_keep (IsS111.apart (show IsS111 w0 _ g x1000_1 x1001_1 x1002_1 from by repeat (first | (with_reducible first | exact HI0.out | apply IsS111.alloc | apply IsS111.drewN | apply IsS111.drew | apply IsS111.set_0 | apply IsS111.set_1 | apply IsS111.set_2) | exact HI0.out)) zam4 (by decide)) hk (fun _ h => h.2)) (fun _ h => h.1)); have n1_ := Aside0.mk (KeepBut.trans zam2 hk (.inl rfl)); have n2_ := Aside0.mk (hb); have n3_ := Aside0.mk (hi); clear HO_4; clear HK; clear HB; clear HI0; have HO_4 := n0_; have HK := n1_; have HB := n2_; have HI0 := n3_; clear n0_ n1_ n2_ n3_; (try clear hb); (try clear hb2); (try clear hk); (try clear hi)) | ((with_reducible refine gate_callee (f := 99) rfl ?_); refine goesL_ (some 17) rfl rfl Try.func99 (by kernel_rfl) rfl #[.pointer (some ⟨g, 0, none⟩)] rfl zam3 ?_; (with_reducible refine (abugidaref02_Reader_Bad.calls g t418 t419 t420 true t422 t423 t424 w0 _ ?side1 ?side2 A6.out).mono ?_); (case side1 => exact zam0); (case side2 => exact zam1); rintro e w9 ⟨rfl, hi, hb, hk⟩; refine ⟨_, rfl, ?_⟩; have n0_ := Aside0.mk (Kd.R_mono (Kd.R_keep (IsS111.apart (show IsS111 w0 _ g t418 t419 t420 from by repeat (first | (with_reducible first | exact HI0.out | apply IsS111.alloc | apply IsS111.drewN | apply IsS111.drew | apply IsS111.set_0 | apply IsS111.set_1 | apply IsS111.set_2) | exact HI0.out)) zam4 (by decide)) hk (fun _ h => h.2)) (fun _ h => h.1)); have n1_ := Aside0.mk (KeepBut.trans zam2 hk (.inl rfl)); have n2_ := Aside0.mk (hb); have n3_ := Aside0.mk (hi); clear HO_4; clear HK; clear HB; clear HI0; have HO_4 := n0_; have HK := n1_; have HB := n2_; have HI0 := n3_; clear n0_ n1_ n2_ n3_; (try clear hb); (try clear hb2); (try clear hk); (try clear hi)))
        go_ret
        exact ⟨_, zam5, zam6, zam0, zam1, zam2⟩
      · replace c7 := Bool.eq_false_iff.mpr c7
        subst c7
        have H1 : (if x4_1.length < 8796093022208 then (abugidaref02_Reader_Texts.l0 k1 t413 (x4_1 ++ [t417]) (wrap64 (x5_1 + 1)) t422 t423 t424) else (none)) = some (r1, r2, r3, r4) := by rw [if_neg (show ¬ (false = true) by decide)] at H; exact H
        clear H
        have H := H1
        clear H1
        by_cases c10 : x4_1.length < 8796093022208
        · rw [if_pos c10] at H
          have LMc10 := Aside0.mk c10
          clear c10
          obtain ⟨y425, hy425⟩ : ∃ y_ : List ByteArray, y_ = (x4_1 ++ [t417]) := ⟨_, rfl⟩
          replace H : (abugidaref02_Reader_Texts.l0 k1 t413 y425 (wrap64 (x5_1 + 1)) t422 t423 t424) = some (r1, r2, r3, r4) := by first | (rw [hy425]; with_reducible exact H) | (have H2_ := (Option.bind_some _ _).symm.trans H; rw [hy425]; with_reducible exact H2_) | (have H2_ := (Option.bind_some _ _).symm.trans H; with_reducible exact H2_) | with_reducible exact H | (rw [hy425]; exact H) | exact H
          have Ny425 := Aside0.mk hy425
          clear hy425
          have H' := Aside0.mk H
          clear H
          go_wp2_with (first | ((with_reducible refine gate_callee (f := 66) rfl ?_); refine goesL_ (some 15) rfl rfl Try.func66 (by kernel_rfl) rfl #[.pointer (some ⟨g, 0, none⟩)] rfl zam3 ?_; (with_reducible refine (abugidaref02_Reader_Text.calls k1 g x1000_1 x1001_1 x1002_1 t417 t418 t419 t420 w0 _ ?side1 ?side2 A5.out).mono ?_); (case side1 => exact zam0); (case side2 => exact zam1); rintro e w11 ⟨rfl, hi, hb, hk⟩; refine ⟨_, rfl, ?_⟩; have n0_ := Aside0.mk (Kd.R_mono (Kd.R_keep (IsS111.apart (show IsS111 w0 _ g x1000_1 x1001_1 x1002_1 from by repeat (first | (with_reducible first | exact HI0.out | apply IsS111.alloc | apply IsS111.drewN | apply IsS111.drew | apply IsS111.set_0 | apply IsS111.set_1 | apply IsS111.set_2) | exact HI0.out)) zam4 (by decide)) hk (fun _ h => h.2)) (fun _ h => h.1)); have n1_ := Aside0.mk (KeepBut.trans zam2 hk (.inl rfl)); have n2_ := Aside0.mk (hb); have n3_ := Aside0.mk (hi); clear HO_4; clear HK; clear HB; clear HI0; have HO_4 := n0_; have HK := n1_; have HB := n2_; have HI0 := n3_; clear n0_ n1_ n2_ n3_; (try clear hb); (try clear hb2); (try clear hk); (try clear hi)) | ((with_reducible refine gate_callee (f := 99) rfl ?_); refine goesL_ (some 17) rfl rfl Try.func99 (by kernel_rfl) rfl #[.pointer (some ⟨g, 0, none⟩)] rfl zam3 ?_; (with_reducible refine (abugidaref02_Reader_Bad.calls g t418 t419 t420 false t422 t423 t424 w0 _ ?side1 ?side2 A6.out).mono ?_); (case side1 => exact zam0); (case side2 => exact zam1); rintro e w12 ⟨rfl, hi, hb, hk⟩; refine ⟨_, rfl, ?_⟩; have n0_ := Aside0.mk (Kd.R_mono (Kd.R_keep (IsS111.apart (show IsS111 w0 _ g t418 t419 t420 from by repeat (first | (with_reducible first | exact HI0.out | apply IsS111.alloc | apply IsS111.drewN | apply IsS111.drew | apply IsS111.set_0 | apply IsS111.set_1 | apply IsS111.set_2) | exact HI0.out)) zam4 (by decide)) hk (fun _ h => h.2)) (fun _ h => h.1)); have n1_ := Aside0.mk (KeepBut.trans zam2 hk (.inl rfl)); have n2_ := Aside0.mk (hb); have n3_ := Aside0.mk (hi); clear HO_4; clear HK; clear HB; clear HI0; have HO_4 := n0_; have HK := n1_; have HB := n2_; have HI0 := n3_; clear n0_ n1_ n2_ n3_; (try clear hb); (try clear hb2); (try clear hk); (try clear hi)) | ((with_reducible refine gate_builtin (b := .append) (xs := #[.tmp 18, .tmp 20]) rfl ?_); at_builtin; refine Kd.R_append Kd.string w.heap.size rfl (.tmp 18) (.tmp 20) 53 9 (.string ⟨#[]⟩) 16 rfl Try.underlying53 info9 rfl (by decide) (by omega) u4 x4_1 t417 [.string t417] (fun _ => True) (fun _ => False) rfl rfl ?aP (fun _ hk => hk.elim) ?aF ?aO (Below.refl _ _) ?aS ?aL ?_; (case aP => exact rfl); (case aF => exact (fun _ _ => trivial)); (case aO => exact zam4); (case aS => exact (keep_size (w := w) (g := g) (row := none) zam2)); (case aL => have := LMc10.out; omega); intro v426 w13 ho hb hg hat; rw [← Ny425.out] at ho; have n0_ := Aside0.mk (IsS111.grown zam0 hg (IsS111.own_ne HI0.out HO_4.out (by decide))); have n1_ := Aside0.mk (below_weaken zam1 HL.out hb); have n2_ := Aside0.mk (KeepBut.trans zam2 (KeepBut.of_grown hg g) (Kd.R_base2 HO_4.out)); have n3_ := Aside0.mk (ho); clear HI0; clear HB; clear HK; clear HO_4; have HI0 := n0_; have HB := n1_; have HK := n2_; have HO427 := n3_; clear n0_ n1_ n2_ n3_; clear ho hb hg hat))
          go_roundg k1
          case measure => have := HK1.out; omega
          case rel => exact ⟨(y425), (wrap64 (x5_1 + 1)), (t422), (t423), (t424), zam7, H', ⟨by have := HK1.out; omega⟩, ⟨by (with_reducible repeat (first | apply Kd.R_alloc | apply Kd.R_drewN | apply Kd.R_drew)); exact HO427.out⟩, ⟨zam0⟩, ⟨zam2⟩, ⟨zam1⟩⟩
        · rw [if_neg c10] at H
          exact absurd H (by simp)
    · rw [if_neg c4] at H
      have c4b0 : decide (x5_1 < t413) = false := decide_eq_false c4
      clear c4
      simp only [Option.some.injEq, Prod.mk.injEq] at H
      obtain ⟨rfl, rfl, rfl, rfl⟩ := H
      go_wp2
      go_ret
      exact ⟨_, zam5, zam4, zam0, zam1, zam2⟩

def abugidaref02_Reader_Ints.l0 : Nat → Int → List Int → Int → ByteArray → Int → Bool → Option (List Int × ByteArray × Int × Bool)
 | 0, _, _, _, _, _, _ => none
 | k + 1, x3, x4, x5, x1000, x1001, x1002 => if x5 < x3 then ((abugidaref02_Reader_Int.f k x1000 x1001 x1002).bind fun bt432 => ((abugidaref02_Reader_Bad.f bt432.2.1 bt432.2.2.1 bt432.2.2.2).bind fun bt436 => (if bt436.1 = true then (some (([] : List Int), bt436.2.1, bt436.2.2.1, bt436.2.2.2)) else (if x4.length < 17592186044416 then (abugidaref02_Reader_Ints.l0 k x3 (x4 ++ [bt432.1]) (wrap64 (x5 + 1)) bt436.2.1 bt436.2.2.1 bt436.2.2.2) else (none))))) else (some (x4, x1000, x1001, x1002))
def abugidaref02_Reader_Ints.f (k : Nat) (s0_0 : ByteArray) (s0_1 : Int) (s0_2 : Bool) : Option (List Int × ByteArray × Int × Bool) := (abugidaref02_Reader_length.f k s0_0 s0_1 s0_2).bind fun bt428 => (abugidaref02_Reader_Ints.l0 k bt428.1 ([] : List Int) 0 bt428.2.1 bt428.2.2.1 bt428.2.2.2)
set_option maxHeartbeats 8000000 in
set_option maxRecDepth 100000 in
theorem abugidaref02_Reader_Ints.calls (k : Nat) (g : Nat) (s0_0 : ByteArray) (s0_1 : Int) (s0_2 : Bool) (r1 : List Int) (r2 : ByteArray) (r3 : Int) (r4 : Bool) (w0 w : World) (hI : IsS111 w0 w g s0_0 s0_1 s0_2) (hB : Below w0.heap.size w0 w) (h : abugidaref02_Reader_Ints.f k s0_0 s0_1 s0_2 = some (r1, r2, r3, r4)) :
 Calls Try.prog 101 #[.pointer (some ⟨g, 0, none⟩)] w fun e w' => ∃ v0_ : Value, e = .returned (v0_) ∧ Kd.R (Kd.int .i64) 3 w' w.heap.size (fun _ => True) v0_ r1 ∧ IsS111 w0 w' g r2 r3 r4 ∧ Below w0.heap.size w0 w' ∧ KeepBut w w' g none := by
 have HI0 := Aside0.mk hI
 have HK := Aside0.mk (KeepBut.refl w g none)
 have HL := Aside0.mk hB.size
 clear hI
 have HW0 := Aside0.mk hB.size
 have HB := Aside0.mk hB
 clear hB
 have H : ((abugidaref02_Reader_length.f k s0_0 s0_1 s0_2).bind fun bt428 => (abugidaref02_Reader_Ints.l0 k bt428.1 ([] : List Int) 0 bt428.2.1 bt428.2.2.1 bt428.2.2.2)) = some (r1, r2, r3, r4) := h
 clear h
 replace H := Option.bind_eq_some_iff.mp H
 obtain ⟨⟨t428, t429, t430, t431⟩, A20, H⟩ := H
 replace H : (abugidaref02_Reader_Ints.l0 k t428 ([] : List Int) 0 t429 t430 t431) = some (r1, r2, r3, r4) := H
 have A2 := Aside0.mk A20
 clear A20
 have H' := Aside0.mk H
 clear H
 go_enter Try.func101, Try.ntmps101
 go_wp2_with (first | ((with_reducible refine gate_callee (f := 98) rfl ?_); refine goesL_ (some 8) rfl rfl Try.func98 (by kernel_rfl) rfl #[.pointer (some ⟨g, 0, none⟩)] rfl zam3 ?_; (with_reducible refine (abugidaref02_Reader_length.calls k g s0_0 s0_1 s0_2 t428 t429 t430 t431 w0 _ ?side1 ?side2 A2.out).mono ?_); (case side1 => exact zam0); (case side2 => exact zam1); rintro e w3 ⟨rfl, hi, hb, hk⟩; refine ⟨_, rfl, ?_⟩; have n0_ := Aside0.mk (KeepBut.trans zam2 hk (.inl rfl)); have n1_ := Aside0.mk (hb); have n2_ := Aside0.mk (hi); clear HK; clear HB; clear HI0; have HK := n0_; have HB := n1_; have HI0 := n2_; clear n0_ n1_ n2_; (try clear hb); (try clear hb2); (try clear hk); (try clear hi)))
 go_loopg [4, 5] k (fun kq v4 v5 w' => ∃ (x4_1 : List Int) (x5_1 : Int) (x1000_1 : ByteArray) (x1001_1 : Int) (x1002_1 : Bool), v5 = .int .i64 x5_1 ∧ Aside0 (abugidaref02_Reader_Ints.l0 kq t428 x4_1 x5_1 x1000_1 x1001_1 x1002_1 = some (r1, r2, r3, r4)) ∧ Aside0 (kq ≤ k) ∧ Aside0 (Kd.R (Kd.int .i64) 3 w' w.heap.size (fun _ => True) v4 x4_1) ∧ Aside0 (IsS111 w0 w' g x1000_1 x1001_1 x1002_1) ∧ Aside0 (KeepBut w w' g none) ∧ Aside0 (Below w0.heap.size w0 w'))
 case atStart => exact ⟨(([] : List Int)), (0), (t429), (t430), (t431), zam7, H', ⟨Nat.le_refl _⟩, ⟨zam6⟩, ⟨zam0⟩, ⟨zam2⟩, ⟨zam1⟩⟩
 case round =>
  clear H'
  try clear c1
  try clear p2
  obtain ⟨x4_1, x5_1, x1000_1, x1001_1, x1002_1, rfl, HA, HK1, HO_4, HI0, HK, HB⟩ := hrel
  cases gk with
  | zero => exact absurd HA.out (by simp [abugidaref02_Reader_Ints.l0])
  | succ k1 =>
    have H := HA.out
    clear HA
    simp only [abugidaref02_Reader_Ints.l0] at H
    by_cases c4 : x5_1 < t428
    · rw [if_pos c4] at H
      have c4b0 : decide (x5_1 < t428) = true := decide_eq_true c4
      clear c4
      replace H := Option.bind_eq_some_iff.mp H
      obtain ⟨⟨t432, t433, t434, t435⟩, A50, H⟩ := H
      replace H : ((abugidaref02_Reader_Bad.f t433 t434 t435).bind fun bt436 => (if bt436.1 = true then (some (([] : List Int), bt436.2.1, bt436.2.2.1, bt436.2.2.2)) else (if x4_1.length < 17592186044416 then (abugidaref02_Reader_Ints.l0 k1 t428 (x4_1 ++ [t432]) (wrap64 (x5_1 + 1)) bt436.2.1 bt436.2.2.1 bt436.2.2.2) else (none)))) = some (r1, r2, r3, r4) := H
      have A5 := Aside0.mk A50
      clear A50
      replace H := Option.bind_eq_some_iff.mp H
      obtain ⟨⟨t436, t437, t438, t439⟩, A60, H⟩ := H
      replace H : (if t436 = true then (some (([] : List Int), t437, t438, t439)) else (if x4_1.length < 17592186044416 then (abugidaref02_Reader_Ints.l0 k1 t428 (x4_1 ++ [t432]) (wrap64 (x5_1 + 1)) t437 t438 t439) else (none))) = some (r1, r2, r3, r4) := H
      have A6 := Aside0.mk A60
      clear A60
      by_cases c7 : t436 = true
      · subst c7
        have H1 : (some (([] : List Int), t437, t438, t439)) = some (r1, r2, r3, r4) := by rw [if_pos rfl] at H; exact H
        clear H
        have H := H1
        clear H1
        simp only [Option.some.injEq, Prod.mk.injEq] at H
        obtain ⟨rfl, rfl, rfl, rfl⟩ := H
        go_wp2_with (first | ((with_reducible refine gate_callee (f := 67) rfl ?_); refine goesL_ (some 15) rfl rfl Try.func67 (by kernel_rfl) rfl #[.pointer (some ⟨g, 0, none⟩)] rfl zam3 ?_; (with_reducible refine (abugidaref02_Reader_Int.calls k1 g x1000_1 x1001_1 x1002_1 t432 t433 t434 t435 w0 _ ?side1 ?side2 A5.out).mono ?_); (case side1 => exact zam0); (case side2 => exact zam1); rintro e w8 ⟨rfl, hi, hb, hk⟩; refine ⟨_, rfl, ?_⟩; have n0_ := Aside0.mk (Kd.R_mono (Kd.R_keep (IsS111.apart (show IsS111 w0 _ g x1000_1 x1001_1 x1002_1 from by repeat (first | (with_reducible first | exact HI0.out | apply IsS111.alloc | apply IsS111.drewN | apply IsS111.drew | apply IsS111.set_0 | apply IsS111.set_1 | apply IsS111.set_2) | exact HI0.out)) zam4 (by decide)) hk (fun _ h => h.2)) (fun _ h => h.1)); have n1_ := Aside0.mk (KeepBut.trans zam2 hk (.inl rfl)); have n2_ := Aside0.mk (hb); have n3_ := Aside0.mk (hi); clear HO_4; clear HK; clear HB; clear HI0; have HO_4 := n0_; have HK := n1_; have HB := n2_; have HI0 := n3_; clear n0_ n1_ n2_ n3_; (try clear hb); (try clear hb2); (try clear hk); (try clear hi)) | ((with_reducible refine gate_callee (f := 99) rfl ?_); refine goesL_ (some 17) rfl rfl Try.func99 (by kernel_rfl) rfl #[.pointer (some ⟨g, 0, none⟩)] rfl zam3 ?_; (with_reducible refine (abugidaref02_Reader_Bad.calls g t433 t434 t435 true t437 t438 t439 w0 _ ?side1 ?side2 A6.out).mono ?_); (case side1 => exact zam0); (case side2 => exact zam1); rintro e w9 ⟨rfl, hi, hb, hk⟩; refine ⟨_, rfl, ?_⟩; have n0_ := Aside0.mk (Kd.R_mono (Kd.R_keep (IsS111.apart (show IsS111 w0 _ g t433 t434 t435 from by repeat (first | (with_reducible first | exact HI0.out | apply IsS111.alloc | apply IsS111.drewN | apply IsS111.drew | apply IsS111.set_0 | apply IsS111.set_1 | apply IsS111.set_2) | exact HI0.out)) zam4 (by decide)) hk (fun _ h => h.2)) (fun _ h => h.1)); have n1_ := Aside0.mk (KeepBut.trans zam2 hk (.inl rfl)); have n2_ := Aside0.mk (hb); have n3_ := Aside0.mk (hi); clear HO_4; clear HK; clear HB; clear HI0; have HO_4 := n0_; have HK := n1_; have HB := n2_; have HI0 := n3_; clear n0_ n1_ n2_ n3_; (try clear hb); (try clear hb2); (try clear hk); (try clear hi)))
        go_ret
        exact ⟨_, zam5, zam6, zam0, zam1, zam2⟩
      · replace c7 := Bool.eq_false_iff.mpr c7
        subst c7
        have H1 : (if x4_1.length < 17592186044416 then (abugidaref02_Reader_Ints.l0 k1 t428 (x4_1 ++ [t432]) (wrap64 (x5_1 + 1)) t437 t438 t439) else (none)) = some (r1, r2, r3, r4) := by rw [if_neg (show ¬ (false = true) by decide)] at H; exact H
        clear H
        have H := H1
        clear H1
        by_cases c10 : x4_1.length < 17592186044416
        · rw [if_pos c10] at H
          have LMc10 := Aside0.mk c10
          clear c10
          obtain ⟨y440, hy440⟩ : ∃ y_ : List Int, y_ = (x4_1 ++ [t432]) := ⟨_, rfl⟩
          replace H : (abugidaref02_Reader_Ints.l0 k1 t428 y440 (wrap64 (x5_1 + 1)) t437 t438 t439) = some (r1, r2, r3, r4) := by first | (rw [hy440]; with_reducible exact H) | (have H2_ := (Option.bind_some _ _).symm.trans H; rw [hy440]; with_reducible exact H2_) | (have H2_ := (Option.bind_some _ _).symm.trans H; with_reducible exact H2_) | with_reducible exact H | (rw [hy440]; exact H) | exact H
          have Ny440 := Aside0.mk hy440
          clear hy440
          have H' := Aside0.mk H
          clear H
          go_wp2_with (first | ((with_reducible refine gate_callee (f := 67) rfl ?_); refine goesL_ (some 15) rfl rfl Try.func67 (by kernel_rfl) rfl #[.pointer (some ⟨g, 0, none⟩)] rfl zam3 ?_; (with_reducible refine (abugidaref02_Reader_Int.calls k1 g x1000_1 x1001_1 x1002_1 t432 t433 t434 t435 w0 _ ?side1 ?side2 A5.out).mono ?_); (case side1 => exact zam0); (case side2 => exact zam1); rintro e w11 ⟨rfl, hi, hb, hk⟩; refine ⟨_, rfl, ?_⟩; have n0_ := Aside0.mk (Kd.R_mono (Kd.R_keep (IsS111.apart (show IsS111 w0 _ g x1000_1 x1001_1 x1002_1 from by repeat (first | (with_reducible first | exact HI0.out | apply IsS111.alloc | apply IsS111.drewN | apply IsS111.drew | apply IsS111.set_0 | apply IsS111.set_1 | apply IsS111.set_2) | exact HI0.out)) zam4 (by decide)) hk (fun _ h => h.2)) (fun _ h => h.1)); have n1_ := Aside0.mk (KeepBut.trans zam2 hk (.inl rfl)); have n2_ := Aside0.mk (hb); have n3_ := Aside0.mk (hi); clear HO_4; clear HK; clear HB; clear HI0; have HO_4 := n0_; have HK := n1_; have HB := n2_; have HI0 := n3_; clear n0_ n1_ n2_ n3_; (try clear hb); (try clear hb2); (try clear hk); (try clear hi)) | ((with_reducible refine gate_callee (f := 99) rfl ?_); refine goesL_ (some 17) rfl rfl Try.func99 (by kernel_rfl) rfl #[.pointer (some ⟨g, 0, none⟩)] rfl zam3 ?_; (with_reducible refine (abugidaref02_Reader_Bad.calls g t433 t434 t435 false t437 t438 t439 w0 _ ?side1 ?side2 A6.out).mono ?_); (case side1 => exact zam0); (case side2 => exact zam1); rintro e w12 ⟨rfl, hi, hb, hk⟩; refine ⟨_, rfl, ?_⟩; have n0_ := Aside0.mk (Kd.R_mono (Kd.R_keep (IsS111.apart (show IsS111 w0 _ g t433 t434 t435 from by repeat (first | (with_reducible first | exact HI0.out | apply IsS111.alloc | apply IsS111.drewN | apply IsS111.drew | apply IsS111.set_0 | apply IsS111.set_1 | apply IsS111.set_2) | exact HI0.out)) zam4 (by decide)) hk (fun _ h => h.2)) (fun _ h => h.1)); have n1_ := Aside0.mk (KeepBut.trans zam2 hk (.inl rfl)); have n2_ := Aside0.mk (hb); have n3_ := Aside0.mk (hi); clear HO_4; clear HK; clear HB; clear HI0; have HO_4 := n0_; have HK := n1_; have HB := n2_; have HI0 := n3_; clear n0_ n1_ n2_ n3_; (try clear hb); (try clear hb2); (try clear hk); (try clear hi)) | ((with_reducible refine gate_builtin (b := .append) (xs := #[.tmp 18, .tmp 20]) rfl ?_); at_builtin; refine Kd.R_append (Kd.int .i64) w.heap.size rfl (.tmp 18) (.tmp 20) 23 3 (.int .i64 0) 8 rfl Try.underlying23 info3 rfl (by decide) (by omega) u4 x4_1 t432 [.int .i64 t432] (fun _ => True) (fun _ => False) rfl rfl ?aP (fun _ hk => hk.elim) ?aF ?aO (Below.refl _ _) ?aS ?aL ?_; (case aP => exact rfl); (case aF => exact (fun _ _ => trivial)); (case aO => exact zam4); (case aS => exact (keep_size (w := w) (g := g) (row := none) zam2)); (case aL => have := LMc10.out; omega); intro v441 w13 ho hb hg hat; rw [← Ny440.out] at ho; have n0_ := Aside0.mk (IsS111.grown zam0 hg (IsS111.own_ne HI0.out HO_4.out (by decide))); have n1_ := Aside0.mk (below_weaken zam1 HL.out hb); have n2_ := Aside0.mk (KeepBut.trans zam2 (KeepBut.of_grown hg g) (Kd.R_base2 HO_4.out)); have n3_ := Aside0.mk (ho); clear HI0; clear HB; clear HK; clear HO_4; have HI0 := n0_; have HB := n1_; have HK := n2_; have HO442 := n3_; clear n0_ n1_ n2_ n3_; clear ho hb hg hat))
          go_roundg k1
          case measure => have := HK1.out; omega
          case rel => exact ⟨(y440), (wrap64 (x5_1 + 1)), (t437), (t438), (t439), zam7, H', ⟨by have := HK1.out; omega⟩, ⟨by (with_reducible repeat (first | apply Kd.R_alloc | apply Kd.R_drewN | apply Kd.R_drew)); exact HO442.out⟩, ⟨zam0⟩, ⟨zam2⟩, ⟨zam1⟩⟩
        · rw [if_neg c10] at H
          exact absurd H (by simp)
    · rw [if_neg c4] at H
      have c4b0 : decide (x5_1 < t428) = false := decide_eq_false c4
      clear c4
      simp only [Option.some.injEq, Prod.mk.injEq] at H
      obtain ⟨rfl, rfl, rfl, rfl⟩ := H
      go_wp2
      go_ret
      exact ⟨_, zam5, zam4, zam0, zam1, zam2⟩

end Go.Proofs.Ythokkeljfdfppaa.Pb

