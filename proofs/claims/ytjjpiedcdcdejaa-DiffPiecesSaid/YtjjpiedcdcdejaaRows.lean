/-
  No cell of these rows narrows 'for every input' (looked for: loops, veiled, ifaces, maps, wideKeys, modest, calm, conditions, laid).
  DERIVED. THE GIVEN ROWS OF THIS SEAT. 7 by the template 'for every input the law returns true; each argument reads behind the call as it read before'; 0 by the template 'total and deterministic' (their statements: YtjjpiedcdcdejaaTotals.lean).
  GIVEN WITH THE SEED: the statements are not yours to turn. If you find one false, say at which input.
  Laid BY PROGRAM, IN A SANDBOX (cutbox-rows.mjs): the forced cells as the released guide's own fill.sh prints them over the translation 6e0f15557af9c2d0… (all of the seat's roots in one cut). By AI agents, Wed Nov 11 2026. No macro, syntax, notation, axiom, sorry.
-/
import Derived.Test.YtjjpiedcdcdejaaChecked
import GoSem.Claim
import GoSem.ClaimJoined
import GoSem.ClaimMapViews
import Derived.JoinedTies
import Derived.KernelRfl
namespace Go.Proofs.Ytjjpiedcdcdejaa
/- THE CELL 'sum', in the pinned program and in every row, IS THE sha256 OF THE DUMP (.gsa) THAT YtjjpiedcdcdejaaProg.lean LOADS. Nothing in Lean hashes anything: it is a label: what it is worth is what the hold of that sum in a sandbox is worth. -/
noncomputable def Try.pinned : Pinned := { name := "ytjjpiedcdcdejaa", sum := "6e0f15557af9c2d0d37a8f05a1230c11754fc53786fa1196796cf4aabc75c375", checked := Try.checked }
namespace Rows
def none {H : Type} : Left H := { results := [], args := [] }

/-- 'abugidalaw24.DiffMakes': WHATEVER THE INPUT: true; the input reads as it did. -/
def diffMakesSpec : ChangeSpec := { name := "diffMakes", fn := fun _ => fun
  | [d1, d2, d3] => { results := [.lit (.bool true)], args := [d1, d2, d3] }
  | _ => none }
def diffMakesRow : OpenClaim := { program := "ytjjpiedcdcdejaa", sum := "6e0f15557af9c2d0d37a8f05a1230c11754fc53786fa1196796cf4aabc75c375", func := "abugida/abugidalaw24.DiffMakes", spec := "diffMakes", inPlace := ["internal/abi.NoEscape"], unfollowed := true, recurses := true, plainKeys := false, apart := false }
def DiffMakesSaid : Prop := diffMakesRow.holds Try.pinned (OpenSpec.ofChange diffMakesSpec)

/-- ITS FALSE NEIGHBOUR: 'it returns false'. Refute it at one input. -/
def diffMakesWrong : ChangeSpec := { name := "diffMakes", fn := fun _ => fun
  | [d1, d2, d3] => { results := [.lit (.bool false)], args := [d1, d2, d3] }
  | _ => none }
def DiffMakesWrongFalsely : Prop := diffMakesRow.holds Try.pinned (OpenSpec.ofChange diffMakesWrong)

/-- 'abugidalaw24.DiffApplies': WHATEVER THE INPUT: true; the input reads as it did. -/
def diffAppliesSpec : ChangeSpec := { name := "diffApplies", fn := fun _ => fun
  | [d1, d2, d3] => { results := [.lit (.bool true)], args := [d1, d2, d3] }
  | _ => none }
def diffAppliesRow : OpenClaim := { program := "ytjjpiedcdcdejaa", sum := "6e0f15557af9c2d0d37a8f05a1230c11754fc53786fa1196796cf4aabc75c375", func := "abugida/abugidalaw24.DiffApplies", spec := "diffApplies", inPlace := ["internal/abi.NoEscape"], unfollowed := true, recurses := true, plainKeys := false, apart := false }
def DiffAppliesSaid : Prop := diffAppliesRow.holds Try.pinned (OpenSpec.ofChange diffAppliesSpec)

/-- ITS FALSE NEIGHBOUR: 'it returns false'. Refute it at one input. -/
def diffAppliesWrong : ChangeSpec := { name := "diffApplies", fn := fun _ => fun
  | [d1, d2, d3] => { results := [.lit (.bool false)], args := [d1, d2, d3] }
  | _ => none }
def DiffAppliesWrongFalsely : Prop := diffAppliesRow.holds Try.pinned (OpenSpec.ofChange diffAppliesWrong)

/-- 'abugidalaw24.DiffCopies': WHATEVER THE INPUT: true; the input reads as it did. -/
def diffCopiesSpec : ChangeSpec := { name := "diffCopies", fn := fun _ => fun
  | [d1, d2] => { results := [.lit (.bool true)], args := [d1, d2] }
  | _ => none }
def diffCopiesRow : OpenClaim := { program := "ytjjpiedcdcdejaa", sum := "6e0f15557af9c2d0d37a8f05a1230c11754fc53786fa1196796cf4aabc75c375", func := "abugida/abugidalaw24.DiffCopies", spec := "diffCopies", inPlace := ["internal/abi.NoEscape"], unfollowed := true, recurses := true, plainKeys := false, apart := false }
def DiffCopiesSaid : Prop := diffCopiesRow.holds Try.pinned (OpenSpec.ofChange diffCopiesSpec)

/-- ITS FALSE NEIGHBOUR: 'it returns false'. Refute it at one input. -/
def diffCopiesWrong : ChangeSpec := { name := "diffCopies", fn := fun _ => fun
  | [d1, d2] => { results := [.lit (.bool false)], args := [d1, d2] }
  | _ => none }
def DiffCopiesWrongFalsely : Prop := diffCopiesRow.holds Try.pinned (OpenSpec.ofChange diffCopiesWrong)

/-- 'abugidalaw24.DiffInverts': WHATEVER THE INPUT: true; the input reads as it did. -/
def diffInvertsSpec : ChangeSpec := { name := "diffInverts", fn := fun _ => fun
  | [d1, d2, d3] => { results := [.lit (.bool true)], args := [d1, d2, d3] }
  | _ => none }
def diffInvertsRow : OpenClaim := { program := "ytjjpiedcdcdejaa", sum := "6e0f15557af9c2d0d37a8f05a1230c11754fc53786fa1196796cf4aabc75c375", func := "abugida/abugidalaw24.DiffInverts", spec := "diffInverts", inPlace := ["internal/abi.NoEscape"], unfollowed := true, recurses := true, plainKeys := false, apart := false }
def DiffInvertsSaid : Prop := diffInvertsRow.holds Try.pinned (OpenSpec.ofChange diffInvertsSpec)

/-- ITS FALSE NEIGHBOUR: 'it returns false'. Refute it at one input. -/
def diffInvertsWrong : ChangeSpec := { name := "diffInverts", fn := fun _ => fun
  | [d1, d2, d3] => { results := [.lit (.bool false)], args := [d1, d2, d3] }
  | _ => none }
def DiffInvertsWrongFalsely : Prop := diffInvertsRow.holds Try.pinned (OpenSpec.ofChange diffInvertsWrong)

/-- 'abugidalaw24.DiffPieces': WHATEVER THE INPUT: true; the input reads as it did. -/
def diffPiecesSpec : ChangeSpec := { name := "diffPieces", fn := fun _ => fun
  | [d] => { results := [.lit (.bool true)], args := [d] }
  | _ => none }
def diffPiecesRow : OpenClaim := { program := "ytjjpiedcdcdejaa", sum := "6e0f15557af9c2d0d37a8f05a1230c11754fc53786fa1196796cf4aabc75c375", func := "abugida/abugidalaw24.DiffPieces", spec := "diffPieces", inPlace := ["internal/abi.NoEscape"], unfollowed := true, recurses := true, plainKeys := false, apart := false }
def DiffPiecesSaid : Prop := diffPiecesRow.holds Try.pinned (OpenSpec.ofChange diffPiecesSpec)

/-- ITS FALSE NEIGHBOUR: 'it returns false'. Refute it at one input. -/
def diffPiecesWrong : ChangeSpec := { name := "diffPieces", fn := fun _ => fun
  | [d] => { results := [.lit (.bool false)], args := [d] }
  | _ => none }
def DiffPiecesWrongFalsely : Prop := diffPiecesRow.holds Try.pinned (OpenSpec.ofChange diffPiecesWrong)

/-- 'abugidalaw24.DiffItself': WHATEVER THE INPUT: true; the input reads as it did. -/
def diffItselfSpec : ChangeSpec := { name := "diffItself", fn := fun _ => fun
  | [d1, d2] => { results := [.lit (.bool true)], args := [d1, d2] }
  | _ => none }
def diffItselfRow : OpenClaim := { program := "ytjjpiedcdcdejaa", sum := "6e0f15557af9c2d0d37a8f05a1230c11754fc53786fa1196796cf4aabc75c375", func := "abugida/abugidalaw24.DiffItself", spec := "diffItself", inPlace := ["internal/abi.NoEscape"], unfollowed := true, recurses := true, plainKeys := false, apart := false }
def DiffItselfSaid : Prop := diffItselfRow.holds Try.pinned (OpenSpec.ofChange diffItselfSpec)

/-- ITS FALSE NEIGHBOUR: 'it returns false'. Refute it at one input. -/
def diffItselfWrong : ChangeSpec := { name := "diffItself", fn := fun _ => fun
  | [d1, d2] => { results := [.lit (.bool false)], args := [d1, d2] }
  | _ => none }
def DiffItselfWrongFalsely : Prop := diffItselfRow.holds Try.pinned (OpenSpec.ofChange diffItselfWrong)

/-- 'abugidalaw24.DiffLong': WHATEVER THE INPUT: true; the input reads as it did. -/
def diffLongSpec : ChangeSpec := { name := "diffLong", fn := fun _ => fun
  | [d1, d2, d3] => { results := [.lit (.bool true)], args := [d1, d2, d3] }
  | _ => none }
def diffLongRow : OpenClaim := { program := "ytjjpiedcdcdejaa", sum := "6e0f15557af9c2d0d37a8f05a1230c11754fc53786fa1196796cf4aabc75c375", func := "abugida/abugidalaw24.DiffLong", spec := "diffLong", inPlace := ["internal/abi.NoEscape"], unfollowed := true, recurses := true, plainKeys := false, apart := false }
def DiffLongSaid : Prop := diffLongRow.holds Try.pinned (OpenSpec.ofChange diffLongSpec)

/-- ITS FALSE NEIGHBOUR: 'it returns false'. Refute it at one input. -/
def diffLongWrong : ChangeSpec := { name := "diffLong", fn := fun _ => fun
  | [d1, d2, d3] => { results := [.lit (.bool false)], args := [d1, d2, d3] }
  | _ => none }
def DiffLongWrongFalsely : Prop := diffLongRow.holds Try.pinned (OpenSpec.ofChange diffLongWrong)

/- THE SECOND FORM. 'bulk': how many values and letters a reading holds, each counted each time it is reached (what is shared counts as often as it is met; a slice's spare places count too). A statement '..UptoSaid' is the law's where the arguments, and the package variables that the reading takes, are together of bulk at most 1048576: NARROWER than '..Said'. Prove '..Said' where nothing that the law and all that it calls make is longer than what came in: it says more and counts as full. Else prove '..UptoSaid'. A law counts once. -/
mutual
def uptoBulk {H : Type} : DataW H → Nat
  | .lit (.string bytes) => bytes.length + 1
  | .lit _ => 1
  | .nil => 1
  | .ptr d => uptoBulk d + 1
  | .slice elems spare => uptoBulkAll elems + uptoBulkAll spare + 1
  | .agg parts => uptoBulkAll parts + 1
  | .iface _ d => uptoBulk d + 1
  | .map entries => uptoBulkEntries entries + 1
  | .held _ => 1
def uptoBulkAll {H : Type} : List (DataW H) → Nat
  | [] => 0
  | d :: r => uptoBulk d + uptoBulkAll r
def uptoBulkEntries {H : Type} : List (Lit × DataW H) → Nat
  | [] => 0
  | x :: r => uptoBulkEntry x + uptoBulkEntries r
def uptoBulkEntry {H : Type} : Lit × DataW H → Nat
  | (.string bytes, d) => bytes.length + uptoBulk d + 1
  | (_, d) => uptoBulk d + 1
 end
def uptoSmall : (H : Type) → List (DataW H) → Bool := fun _ ds => decide (uptoBulkAll ds ≤ 1048576)
def OpenSpec.upto (s : _root_.Go.ChangeSpec) : _root_.Go.OpenSpec := { _root_.Go.OpenSpec.ofChange s with cond := some uptoSmall }

/-- 'abugidalaw24.DiffMakes', WHERE WHAT IT READS IS OF BULK AT MOST 1048576: true; the input reads as it did. -/
def diffMakesUptoRow : OpenClaim := { program := "ytjjpiedcdcdejaa", sum := "6e0f15557af9c2d0d37a8f05a1230c11754fc53786fa1196796cf4aabc75c375", func := "abugida/abugidalaw24.DiffMakes", spec := "diffMakes", inPlace := ["internal/abi.NoEscape"], unfollowed := true, recurses := true, plainKeys := false, apart := false, narrowed := true }
def DiffMakesUptoSaid : Prop := diffMakesUptoRow.holds Try.pinned (OpenSpec.upto diffMakesSpec)

/-- 'abugidalaw24.DiffApplies', WHERE WHAT IT READS IS OF BULK AT MOST 1048576: true; the input reads as it did. -/
def diffAppliesUptoRow : OpenClaim := { program := "ytjjpiedcdcdejaa", sum := "6e0f15557af9c2d0d37a8f05a1230c11754fc53786fa1196796cf4aabc75c375", func := "abugida/abugidalaw24.DiffApplies", spec := "diffApplies", inPlace := ["internal/abi.NoEscape"], unfollowed := true, recurses := true, plainKeys := false, apart := false, narrowed := true }
def DiffAppliesUptoSaid : Prop := diffAppliesUptoRow.holds Try.pinned (OpenSpec.upto diffAppliesSpec)

/-- 'abugidalaw24.DiffCopies', WHERE WHAT IT READS IS OF BULK AT MOST 1048576: true; the input reads as it did. -/
def diffCopiesUptoRow : OpenClaim := { program := "ytjjpiedcdcdejaa", sum := "6e0f15557af9c2d0d37a8f05a1230c11754fc53786fa1196796cf4aabc75c375", func := "abugida/abugidalaw24.DiffCopies", spec := "diffCopies", inPlace := ["internal/abi.NoEscape"], unfollowed := true, recurses := true, plainKeys := false, apart := false, narrowed := true }
def DiffCopiesUptoSaid : Prop := diffCopiesUptoRow.holds Try.pinned (OpenSpec.upto diffCopiesSpec)

/-- 'abugidalaw24.DiffInverts', WHERE WHAT IT READS IS OF BULK AT MOST 1048576: true; the input reads as it did. -/
def diffInvertsUptoRow : OpenClaim := { program := "ytjjpiedcdcdejaa", sum := "6e0f15557af9c2d0d37a8f05a1230c11754fc53786fa1196796cf4aabc75c375", func := "abugida/abugidalaw24.DiffInverts", spec := "diffInverts", inPlace := ["internal/abi.NoEscape"], unfollowed := true, recurses := true, plainKeys := false, apart := false, narrowed := true }
def DiffInvertsUptoSaid : Prop := diffInvertsUptoRow.holds Try.pinned (OpenSpec.upto diffInvertsSpec)

/-- 'abugidalaw24.DiffPieces', WHERE WHAT IT READS IS OF BULK AT MOST 1048576: true; the input reads as it did. -/
def diffPiecesUptoRow : OpenClaim := { program := "ytjjpiedcdcdejaa", sum := "6e0f15557af9c2d0d37a8f05a1230c11754fc53786fa1196796cf4aabc75c375", func := "abugida/abugidalaw24.DiffPieces", spec := "diffPieces", inPlace := ["internal/abi.NoEscape"], unfollowed := true, recurses := true, plainKeys := false, apart := false, narrowed := true }
def DiffPiecesUptoSaid : Prop := diffPiecesUptoRow.holds Try.pinned (OpenSpec.upto diffPiecesSpec)

/-- 'abugidalaw24.DiffItself', WHERE WHAT IT READS IS OF BULK AT MOST 1048576: true; the input reads as it did. -/
def diffItselfUptoRow : OpenClaim := { program := "ytjjpiedcdcdejaa", sum := "6e0f15557af9c2d0d37a8f05a1230c11754fc53786fa1196796cf4aabc75c375", func := "abugida/abugidalaw24.DiffItself", spec := "diffItself", inPlace := ["internal/abi.NoEscape"], unfollowed := true, recurses := true, plainKeys := false, apart := false, narrowed := true }
def DiffItselfUptoSaid : Prop := diffItselfUptoRow.holds Try.pinned (OpenSpec.upto diffItselfSpec)

/-- 'abugidalaw24.DiffLong', WHERE WHAT IT READS IS OF BULK AT MOST 1048576: true; the input reads as it did. -/
def diffLongUptoRow : OpenClaim := { program := "ytjjpiedcdcdejaa", sum := "6e0f15557af9c2d0d37a8f05a1230c11754fc53786fa1196796cf4aabc75c375", func := "abugida/abugidalaw24.DiffLong", spec := "diffLong", inPlace := ["internal/abi.NoEscape"], unfollowed := true, recurses := true, plainKeys := false, apart := false, narrowed := true }
def DiffLongUptoSaid : Prop := diffLongUptoRow.holds Try.pinned (OpenSpec.upto diffLongSpec)

end Rows
end Go.Proofs.Ytjjpiedcdcdejaa
