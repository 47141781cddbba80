/- The shelf's contracts for strings.Builder, laid over this program's numbers. -/
import Derived.Test.YthokkeljfdfppaaProg
import Derived.Shelf.Strings.BuilderK
set_option linter.unusedVariables false
namespace Go.Proofs.Ythokkeljfdfppaa.Bd
open Go.Shelf Go.RowKit
def nums : Ren := ⟨fun n => match n with | 166 => 114 | 240 => 130 | 276 => 144 | 169 => 115 | _ => 0, fun n => match n with | 0 => 0 | 3 => 3 | 4 => 4 | 9 => 9 | 20 => 20 | 37 => 114 | 70 => 177 | 72 => 179 | 75 => 181 | 164 => 211 | 127 => 199 | 5 => 5 | 80 => 104 | _ => 0, fun n => n⟩
set_option maxRecDepth 100000 in
theorem lays166 : Lays.n166 Try.prog nums := {
  mixed := by kernel_rfl,
  f166 := by kernel_rfl,
  f240 := by kernel_rfl,
  f276 := by kernel_rfl,
  t0 := by kernel_rfl,
  a0 := fun _ => by kernel_rfl,
  z0 := fun _ => by kernel_rfl,
  v0 := fun _ => by kernel_rfl,
  t3 := by kernel_rfl,
  a3 := fun _ => by kernel_rfl,
  z3 := fun _ => by kernel_rfl,
  v3 := fun _ => by kernel_rfl,
  t4 := by kernel_rfl,
  a4 := fun _ => by kernel_rfl,
  z4 := fun _ => by kernel_rfl,
  v4 := fun _ => by kernel_rfl,
  t9 := by kernel_rfl,
  a9 := fun _ => by kernel_rfl,
  z9 := fun _ => by kernel_rfl,
  v9 := fun _ => by kernel_rfl,
  t20 := by kernel_rfl,
  a20 := fun _ => by kernel_rfl,
  z20 := fun _ => by kernel_rfl,
  v20 := fun _ => by kernel_rfl,
  t37 := by kernel_rfl,
  a37 := fun _ => by kernel_rfl,
  z37 := fun _ => by kernel_rfl,
  v37 := fun _ => by kernel_rfl,
  t70 := by kernel_rfl,
  a70 := fun _ => by kernel_rfl,
  z70 := fun _ => by kernel_rfl,
  v70 := fun _ => by kernel_rfl,
  t72 := by kernel_rfl,
  a72 := fun _ => by kernel_rfl,
  z72 := fun _ => by kernel_rfl,
  v72 := fun _ => by kernel_rfl,
  t75 := by kernel_rfl,
  a75 := fun _ => by kernel_rfl,
  z75 := fun _ => by kernel_rfl,
  v75 := fun _ => by kernel_rfl,
  t164 := by kernel_rfl,
  a164 := fun _ => by kernel_rfl,
  z164 := fun _ => by kernel_rfl,
  v164 := fun _ => by kernel_rfl }
set_option maxRecDepth 100000 in
theorem lays169 : Lays.n169 Try.prog nums := {
  mixed := by kernel_rfl,
  f169 := by kernel_rfl,
  t0 := by kernel_rfl,
  a0 := fun _ => by kernel_rfl,
  z0 := fun _ => by kernel_rfl,
  v0 := fun _ => by kernel_rfl,
  t3 := by kernel_rfl,
  a3 := fun _ => by kernel_rfl,
  z3 := fun _ => by kernel_rfl,
  v3 := fun _ => by kernel_rfl,
  t9 := by kernel_rfl,
  a9 := fun _ => by kernel_rfl,
  z9 := fun _ => by kernel_rfl,
  v9 := fun _ => by kernel_rfl,
  t37 := by kernel_rfl,
  a37 := fun _ => by kernel_rfl,
  z37 := fun _ => by kernel_rfl,
  v37 := fun _ => by kernel_rfl,
  t70 := by kernel_rfl,
  a70 := fun _ => by kernel_rfl,
  z70 := fun _ => by kernel_rfl,
  v70 := fun _ => by kernel_rfl,
  t72 := by kernel_rfl,
  a72 := fun _ => by kernel_rfl,
  z72 := fun _ => by kernel_rfl,
  v72 := fun _ => by kernel_rfl,
  t127 := by kernel_rfl,
  a127 := fun _ => by kernel_rfl,
  z127 := fun _ => by kernel_rfl,
  v127 := fun _ => by kernel_rfl }
set_option maxRecDepth 100000 in
theorem extra : Builder.Extra Try.prog nums := {
  sizeBuilder := by kernel_rfl,
  liesBuilder := by kernel_rfl,
  t5 := by kernel_rfl,
  a5 := fun _ => by kernel_rfl,
  z5 := fun _ => by kernel_rfl,
  v5 := fun _ => by kernel_rfl,
  infoByte := by kernel_rfl,
  cellsByte := by kernel_rfl,
  sizeByte := by kernel_rfl,
  neB5 := by decide }
theorem writeString (B b : Nat) (bs : List Value) (s : ByteArray) (w : World) (h : Lib.IsBuilderF 179 5 B b bs w) (hlen : bs.length + s.size ≤ 140737488355328) (hBw : B ≤ w.heap.size) :
    Calls Try.prog 114 #[.pointer (some ⟨b, 0, none⟩), .string s] w fun e w' => e = .returned (.tuple #[.int .i64 (s.size : Int), .nilIface]) ∧ (Lib.BuilderAtF 179 5 B b (.pointer (some ⟨b, 0, none⟩)) (bs ++ Lib.byteCells s.data.toList) w' ∧ Below B w w' ∧ Lib.OthersKept 5 (some b) w w') :=
  Any.Builder_WriteString_k lays166 extra B b bs s w h hlen hBw
theorem toString_any (B b : Nat) (l : List UInt8) (w : World) (h : Lib.IsBuilderF 179 5 B b (Lib.byteCells l) w) (hBw : B ≤ w.heap.size) :
    Calls Try.prog 115 #[.pointer (some ⟨b, 0, none⟩)] w fun e w' => e = .returned (.string ⟨l.toArray⟩) ∧ Below B w w' :=
  (Any.Builder_String_any_k lays169 extra B b l w h hBw).mono fun e w' h => ⟨h.1, h.2.2.1⟩
end Go.Proofs.Ythokkeljfdfppaa.Bd

