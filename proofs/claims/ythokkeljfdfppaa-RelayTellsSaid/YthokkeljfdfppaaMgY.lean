/- Several texts of this claim, one behind the other: Pby0, Pby1. -/
import Derived.Test.YthokkeljfdfppaaMgG
import Derived.Test.YthokkeljfdfppaaProg
import Derived.Below
import Derived.Deep.Draws
import Derived.Deep.AppendLies
import Derived.Maps.AppendAt
import Derived.OwnWalk
import Derived.Laws.BytesArg
import Derived.Laws.MakeOwn
import Derived.Laws.OwnMore
import Derived.Deep.OwnRows
import Derived.Tactics
import Derived.Lib.ConvBytes
import Derived.Laws.Slices
import Derived.WalkKit
import Derived.KernelRfl
import Derived.RowKit3
import Derived.Deep.LoopGhost
import Derived.Deep.QuietTactic
import Derived.BigQuiet
import Derived.WideLaws
import Derived.Deep.DeepCutAuto
import Derived.Deep.CutBlock
import Derived.Deep.RegionHeld3
import Derived.Laws.Rows
import Derived.Lib.AppendStr
import Derived.ArgAppend
import Derived.Laws.IdiomCopy
import Derived.OrdersHeld
import Derived.Laws.BitsLemmas
import Derived.RowKit
import Derived.Test.YthokkeljfdfppaaMgP
-- Printed for this claim by its own gprint.py, over contracts proved by hand; not trusted: Lean checks it.
namespace Go.Proofs.Ythokkeljfdfppaa.Pb
open Go.RowKit Go.Proofs.YthokkeljfdfppaaW.PrintWords Go.Proofs.YthokkeljfdfppaaW.PrintLast Go.Proofs.YthokkeljfdfppaaW.PrintMore
open Go.Proofs.Ythokkeljfdfppaa.Gw
attribute [local go_sem] max2_int min2_int max_two min_two max_three min_three max_four min_four   -- for this text's walks alone
set_option linter.unusedVariables false
set_option linter.unusedSimpArgs false




theorem info9 : (Try.prog.info? 9).map (fun i => (i.zero, i.size, i.bytes)) = some (some (.string ⟨#[]⟩), 1, 16) := by kernel_rfl
theorem info52 : (Try.prog.info? 52).map (fun i => (i.zero, i.size, i.bytes)) = some (some (.agg #[(.int .i64 0), (.int .i64 0), (.int .i64 0)]), 3, 24) := by kernel_rfl
theorem info55 : (Try.prog.info? 55).map (fun i => (i.zero, i.size, i.bytes)) = some (some (.agg #[(.string ⟨#[]⟩), (.int .i64 0), (.int .i64 0), (.int .i64 0), (.int .i64 0), (.int .i64 0), (.int .i64 0), (.int .i64 0), (.string ⟨#[]⟩), (.int .i64 0), (.slice none 0 0)]), 11, 120) := by kernel_rfl
-- the values' own types
/-! #### struct type 52 -/
structure S52 where
  f0 : Int
  f1 : Int
  f2 : Int
def z52 : S52 := ⟨(0 : Int), (0 : Int), (0 : Int)⟩
def k52 : Kd S52 := Kd.iso (Kd.pair (Kd.int .i64) (Kd.pair (Kd.int .i64) (Kd.int .i64))) (fun x : S52 => (x.f0, x.f1, x.f2))
theorem k52_open {w : World} {x : S52} {cs : List Value} (h : k52.K w x cs) : cs = [.int .i64 x.f0, .int .i64 x.f1, .int .i64 x.f2] := by
  obtain ⟨_, _, rfl, rfl, ⟨_, _, rfl, rfl, rfl⟩⟩ := h
  exact rfl
theorem k52_mk (w : World) (x : S52)  : k52.K w x [.int .i64 x.f0, .int .i64 x.f1, .int .i64 x.f2] := ⟨[.int .i64 x.f0], [.int .i64 x.f1, .int .i64 x.f2], rfl, rfl, ⟨[.int .i64 x.f1], [.int .i64 x.f2], rfl, rfl, rfl⟩⟩
theorem k52_mkM (w : World) (base : Nat) (ok : Nat → Prop) (x : S52)  : k52.M w base ok x [.int .i64 x.f0, .int .i64 x.f1, .int .i64 x.f2] := ⟨[.int .i64 x.f0], [.int .i64 x.f1, .int .i64 x.f2], rfl, rfl, ⟨[.int .i64 x.f1], [.int .i64 x.f2], rfl, rfl, rfl⟩⟩
def rd_T52 (xs : List S52) (i : Int) : S52 := xs.getD i.toNat z52
theorem at_T52 {w : World} {A : Option Addr} {n : Nat} {xs : List S52} (h : Kd.C k52 w A n xs) (i : Int) (h0 : 0 ≤ i) (h1 : i < n) : ∃ ad , A = some ad ∧ w.cell? (ad.add (i.toNat * 3)) = some (.int .i64 (rd_T52 xs i).f0) ∧ w.cell? ⟨(ad.add (i.toNat * 3)).block, (ad.add (i.toNat * 3)).off + 1, none⟩ = some (.int .i64 (rd_T52 xs i).f1) ∧ w.cell? ⟨(ad.add (i.toNat * 3)).block, (ad.add (i.toNat * 3)).off + 2, none⟩ = some (.int .i64 (rd_T52 xs i).f2) := by
  obtain ⟨ad, c, e, _, hK, hc0⟩ := Kd.C_get h z52 i h0 h1
  have hc : ∀ j u, c[j]? = some u → w.cell? (ad.add (i.toNat * 3 + j)) = some u := hc0
  obtain rfl := k52_open hK
  exact ⟨ad, e, hc 0 _ rfl, by rw [← add_field _ _ 1 (by omega)]; exact hc 1 _ rfl, by rw [← add_field _ _ 2 (by omega)]; exact hc 2 _ rfl⟩

/-! #### struct type 55 -/
structure S55 where
  f0 : ByteArray
  f1 : Int
  f2 : S52
  f3 : S52
  f4 : ByteArray
  f5 : Int
  f6 : (List ByteArray)
def z55 : S55 := ⟨(⟨#[]⟩ : ByteArray), (0 : Int), z52, z52, (⟨#[]⟩ : ByteArray), (0 : Int), ([] : List ByteArray)⟩
def k55 : Kd S55 := Kd.iso (Kd.pair Kd.string (Kd.pair (Kd.int .i64) (Kd.pair k52 (Kd.pair k52 (Kd.pair Kd.string (Kd.pair (Kd.int .i64) (Kd.slice 9 Kd.string))))))) (fun x : S55 => (x.f0, x.f1, x.f2, x.f3, x.f4, x.f5, x.f6))
theorem k55_open {w : World} {x : S55} {cs : List Value} (h : k55.K w x cs) : ∃ A10 c10, cs = [.string x.f0, .int .i64 x.f1, .int .i64 x.f2.f0, .int .i64 x.f2.f1, .int .i64 x.f2.f2, .int .i64 x.f3.f0, .int .i64 x.f3.f1, .int .i64 x.f3.f2, .string x.f4, .int .i64 x.f5, .slice A10 x.f6.length c10] ∧ x.f6.length ≤ c10 ∧ Kd.string.C w A10 x.f6.length x.f6 := by
  obtain ⟨_, _, rfl, rfl, ⟨_, _, rfl, rfl, ⟨_, _, rfl, s2, ⟨_, _, rfl, s5, ⟨_, _, rfl, rfl, ⟨_, _, rfl, rfl, ⟨A10, c10, rfl, l10, g10⟩⟩⟩⟩⟩⟩⟩ := h
  obtain rfl := k52_open s2
  obtain rfl := k52_open s5
  exact ⟨A10, c10, rfl, l10, g10⟩
theorem k55_mk (w : World) (x : S55) {A10 : Option Addr} {c10 : Nat} (l10 : x.f6.length ≤ c10) (g10 : Kd.string.C w A10 x.f6.length x.f6) : k55.K w x [.string x.f0, .int .i64 x.f1, .int .i64 x.f2.f0, .int .i64 x.f2.f1, .int .i64 x.f2.f2, .int .i64 x.f3.f0, .int .i64 x.f3.f1, .int .i64 x.f3.f2, .string x.f4, .int .i64 x.f5, .slice A10 x.f6.length c10] := ⟨[.string x.f0], [.int .i64 x.f1, .int .i64 x.f2.f0, .int .i64 x.f2.f1, .int .i64 x.f2.f2, .int .i64 x.f3.f0, .int .i64 x.f3.f1, .int .i64 x.f3.f2, .string x.f4, .int .i64 x.f5, .slice A10 x.f6.length c10], rfl, rfl, ⟨[.int .i64 x.f1], [.int .i64 x.f2.f0, .int .i64 x.f2.f1, .int .i64 x.f2.f2, .int .i64 x.f3.f0, .int .i64 x.f3.f1, .int .i64 x.f3.f2, .string x.f4, .int .i64 x.f5, .slice A10 x.f6.length c10], rfl, rfl, ⟨[.int .i64 x.f2.f0, .int .i64 x.f2.f1, .int .i64 x.f2.f2], [.int .i64 x.f3.f0, .int .i64 x.f3.f1, .int .i64 x.f3.f2, .string x.f4, .int .i64 x.f5, .slice A10 x.f6.length c10], rfl, (k52_mk w x.f2 ), ⟨[.int .i64 x.f3.f0, .int .i64 x.f3.f1, .int .i64 x.f3.f2], [.string x.f4, .int .i64 x.f5, .slice A10 x.f6.length c10], rfl, (k52_mk w x.f3 ), ⟨[.string x.f4], [.int .i64 x.f5, .slice A10 x.f6.length c10], rfl, rfl, ⟨[.int .i64 x.f5], [.slice A10 x.f6.length c10], rfl, rfl, ⟨A10, c10, rfl, l10, g10⟩⟩⟩⟩⟩⟩⟩
theorem k55_mkM (w : World) (base : Nat) (ok : Nat → Prop) (x : S55) {v10 : Value} (g10 : Kd.string.R 9 w base ok v10 x.f6) : k55.M w base ok x [.string x.f0, .int .i64 x.f1, .int .i64 x.f2.f0, .int .i64 x.f2.f1, .int .i64 x.f2.f2, .int .i64 x.f3.f0, .int .i64 x.f3.f1, .int .i64 x.f3.f2, .string x.f4, .int .i64 x.f5, v10] := ⟨[.string x.f0], [.int .i64 x.f1, .int .i64 x.f2.f0, .int .i64 x.f2.f1, .int .i64 x.f2.f2, .int .i64 x.f3.f0, .int .i64 x.f3.f1, .int .i64 x.f3.f2, .string x.f4, .int .i64 x.f5, v10], rfl, rfl, ⟨[.int .i64 x.f1], [.int .i64 x.f2.f0, .int .i64 x.f2.f1, .int .i64 x.f2.f2, .int .i64 x.f3.f0, .int .i64 x.f3.f1, .int .i64 x.f3.f2, .string x.f4, .int .i64 x.f5, v10], rfl, rfl, ⟨[.int .i64 x.f2.f0, .int .i64 x.f2.f1, .int .i64 x.f2.f2], [.int .i64 x.f3.f0, .int .i64 x.f3.f1, .int .i64 x.f3.f2, .string x.f4, .int .i64 x.f5, v10], rfl, (k52_mkM w base ok x.f2 ), ⟨[.int .i64 x.f3.f0, .int .i64 x.f3.f1, .int .i64 x.f3.f2], [.string x.f4, .int .i64 x.f5, v10], rfl, (k52_mkM w base ok x.f3 ), ⟨[.string x.f4], [.int .i64 x.f5, v10], rfl, rfl, ⟨[.int .i64 x.f5], [v10], rfl, rfl, ⟨v10, rfl, g10⟩⟩⟩⟩⟩⟩⟩
def rd_T55 (xs : List S55) (i : Int) : S55 := xs.getD i.toNat z55
theorem at_T55 {w : World} {A : Option Addr} {n : Nat} {xs : List S55} (h : Kd.C k55 w A n xs) (i : Int) (h0 : 0 ≤ i) (h1 : i < n) : ∃ ad A10 c10, A = some ad ∧ w.cell? (ad.add (i.toNat * 11)) = some (.string (rd_T55 xs i).f0) ∧ w.cell? ⟨(ad.add (i.toNat * 11)).block, (ad.add (i.toNat * 11)).off + 1, none⟩ = some (.int .i64 (rd_T55 xs i).f1) ∧ w.cell? ⟨(ad.add (i.toNat * 11)).block, (ad.add (i.toNat * 11)).off + 2, none⟩ = some (.int .i64 (rd_T55 xs i).f2.f0) ∧ w.cell? ⟨(ad.add (i.toNat * 11)).block, (ad.add (i.toNat * 11)).off + 3, none⟩ = some (.int .i64 (rd_T55 xs i).f2.f1) ∧ w.cell? ⟨(ad.add (i.toNat * 11)).block, (ad.add (i.toNat * 11)).off + 4, none⟩ = some (.int .i64 (rd_T55 xs i).f2.f2) ∧ w.cell? ⟨(ad.add (i.toNat * 11)).block, (ad.add (i.toNat * 11)).off + 5, none⟩ = some (.int .i64 (rd_T55 xs i).f3.f0) ∧ w.cell? ⟨(ad.add (i.toNat * 11)).block, (ad.add (i.toNat * 11)).off + 6, none⟩ = some (.int .i64 (rd_T55 xs i).f3.f1) ∧ w.cell? ⟨(ad.add (i.toNat * 11)).block, (ad.add (i.toNat * 11)).off + 7, none⟩ = some (.int .i64 (rd_T55 xs i).f3.f2) ∧ w.cell? ⟨(ad.add (i.toNat * 11)).block, (ad.add (i.toNat * 11)).off + 8, none⟩ = some (.string (rd_T55 xs i).f4) ∧ w.cell? ⟨(ad.add (i.toNat * 11)).block, (ad.add (i.toNat * 11)).off + 9, none⟩ = some (.int .i64 (rd_T55 xs i).f5) ∧ w.cell? ⟨(ad.add (i.toNat * 11)).block, (ad.add (i.toNat * 11)).off + 10, none⟩ = some (.slice A10 (rd_T55 xs i).f6.length c10) ∧ (rd_T55 xs i).f6.length ≤ c10 ∧ Kd.string.C w A10 (rd_T55 xs i).f6.length (rd_T55 xs i).f6 := by
  obtain ⟨ad, c, e, _, hK, hc0⟩ := Kd.C_get h z55 i h0 h1
  have hc : ∀ j u, c[j]? = some u → w.cell? (ad.add (i.toNat * 11 + j)) = some u := hc0
  obtain ⟨A10, c10, rfl, l10, g10⟩ := k55_open hK
  exact ⟨ad, A10, c10, e, hc 0 _ rfl, by rw [← add_field _ _ 1 (by omega)]; exact hc 1 _ rfl, by rw [← add_field _ _ 2 (by omega)]; exact hc 2 _ rfl, by rw [← add_field _ _ 3 (by omega)]; exact hc 3 _ rfl, by rw [← add_field _ _ 4 (by omega)]; exact hc 4 _ rfl, by rw [← add_field _ _ 5 (by omega)]; exact hc 5 _ rfl, by rw [← add_field _ _ 6 (by omega)]; exact hc 6 _ rfl, by rw [← add_field _ _ 7 (by omega)]; exact hc 7 _ rfl, by rw [← add_field _ _ 8 (by omega)]; exact hc 8 _ rfl, by rw [← add_field _ _ 9 (by omega)]; exact hc 9 _ rfl, by rw [← add_field _ _ 10 (by omega)]; exact hc 10 _ rfl, l10, g10⟩

end Go.Proofs.Ythokkeljfdfppaa.Pb

-- Printed for this claim by its own gprint.py, over contracts proved by hand; not trusted: Lean checks it.
namespace Go.Proofs.Ythokkeljfdfppaa.Pb
open Go.RowKit Go.Proofs.Ythokkeljfdfppaa.Gw Go.Proofs.YthokkeljfdfppaaW.PrintWords Go.Proofs.YthokkeljfdfppaaW.PrintLast Go.Proofs.YthokkeljfdfppaaW.PrintMore
open Go.Proofs.Ythokkeljfdfppaa.Gw
attribute [local go_sem] max2_int min2_int max_two min_two max_three min_three max_four min_four   -- for this text's walks alone
set_option linter.unusedVariables false
set_option linter.unusedSimpArgs false

/-! ### abugidaref02_Reader_length: function 98 -/
def abugidaref02_Reader_length.f (k : Nat) (s0_0 : ByteArray) (s0_1 : Int) (s0_2 : Bool) : Option (Int × ByteArray × Int × Bool) := (abugidaref02_Reader_Int.f k s0_0 s0_1 s0_2).bind fun bt354 => (if bt354.1 < 0 then ((abugidaref02_Reader_fail.f bt354.2.1 bt354.2.2.1 bt354.2.2.2).bind fun bt358 => (some (0, bt358.1, bt358.2.1, bt358.2.2))) else ((abugidaref02_Reader_Left.f bt354.2.1 bt354.2.2.1 bt354.2.2.2).bind fun bt361 => (if bt354.1 > bt361.1 then ((abugidaref02_Reader_fail.f bt361.2.1 bt361.2.2.1 bt361.2.2.2).bind fun bt365 => (some (0, bt365.1, bt365.2.1, bt365.2.2))) else (some (bt354.1, bt361.2.1, bt361.2.2.1, bt361.2.2.2)))))
/-! ### abugidaref02_Reader_Text: function 66 -/
def abugidaref02_Reader_Text.f (k : Nat) (s0_0 : ByteArray) (s0_1 : Int) (s0_2 : Bool) : Option (ByteArray × ByteArray × Int × Bool) := (abugidaref02_Reader_length.f k s0_0 s0_1 s0_2).bind fun bt368 => ((abugidaref02_Reader_Bad.f bt368.2.1 bt368.2.2.1 bt368.2.2.2).bind fun bt372 => (if bt372.1 = true then (some ((⟨#[]⟩ : ByteArray), bt372.2.1, bt372.2.2.1, bt372.2.2.2)) else (if 0 ≤ (wrap64 ((wrap64 (bt372.2.2.1 + bt368.1)) - bt368.1)) then (if (wrap64 ((wrap64 (bt372.2.2.1 + bt368.1)) - bt368.1)) ≤ (wrap64 (bt372.2.2.1 + bt368.1)) then (if (wrap64 (bt372.2.2.1 + bt368.1)) ≤ (bt372.2.1.size : Int) then (some (bt372.2.1.extract ((wrap64 ((wrap64 (bt372.2.2.1 + bt368.1)) - bt368.1)) : Int).toNat ((wrap64 (bt372.2.2.1 + bt368.1)) : Int).toNat, bt372.2.1, wrap64 (bt372.2.2.1 + bt368.1), bt372.2.2.2)) else (none)) else (none)) else (none))))
/-! ### abugidaref02_Reader_Texts: function 68 -/
def abugidaref02_Reader_Texts.l0 : Nat → Int → List ByteArray → Int → ByteArray → Int → Bool → Option (List ByteArray × ByteArray × Int × Bool)
  | 0, _, _, _, _, _, _ => none
  | k + 1, x3, x4, x5, x1000, x1001, x1002 => if x5 < x3 then ((abugidaref02_Reader_Text.f k x1000 x1001 x1002).bind fun bt417 => ((abugidaref02_Reader_Bad.f bt417.2.1 bt417.2.2.1 bt417.2.2.2).bind fun bt421 => (if bt421.1 = true then (some (([] : List ByteArray), bt421.2.1, bt421.2.2.1, bt421.2.2.2)) else (if x4.length < 8796093022208 then (abugidaref02_Reader_Texts.l0 k x3 (x4 ++ [bt417.1]) (wrap64 (x5 + 1)) bt421.2.1 bt421.2.2.1 bt421.2.2.2) else (none))))) else (some (x4, x1000, x1001, x1002))
def abugidaref02_Reader_Texts.f (k : Nat) (s0_0 : ByteArray) (s0_1 : Int) (s0_2 : Bool) : Option (List ByteArray × ByteArray × Int × Bool) := (abugidaref02_Reader_length.f k s0_0 s0_1 s0_2).bind fun bt413 => (abugidaref02_Reader_Texts.l0 k bt413.1 ([] : List ByteArray) 0 bt413.2.1 bt413.2.2.1 bt413.2.2.2)
/-! ### abugidaref02_Reader_Ints: function 101 -/
end Go.Proofs.Ythokkeljfdfppaa.Pb

