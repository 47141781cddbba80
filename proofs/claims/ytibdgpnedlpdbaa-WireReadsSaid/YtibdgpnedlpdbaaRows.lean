/-
  No cell of these rows narrows 'for every input' (looked for: loops, veiled, ifaces, maps, wideKeys, modest, calm, conditions, laid).
  DERIVED. THE GIVEN ROWS OF THIS SEAT. 7 by the template 'for every input the law returns true; each argument reads behind the call as it read before'; 0 by the template 'total and deterministic' (their statements: YtibdgpnedlpdbaaTotals.lean).
  GIVEN WITH THE SEED: the statements are not yours to turn. If you find one false, say at which input.
  Laid BY PROGRAM, IN A SANDBOX (cutbox-rows.mjs): the forced cells as the released guide's own fill.sh prints them over the translation e72c1c07be723edc… (all of the seat's roots in one cut). By AI agents, Wed Nov 11 2026. No macro, syntax, notation, axiom, sorry.
-/
import Derived.Test.YtibdgpnedlpdbaaChecked
import GoSem.Claim
import GoSem.ClaimJoined
import GoSem.ClaimMapViews
import Derived.JoinedTies
import Derived.KernelRfl
namespace Go.Proofs.Ytibdgpnedlpdbaa
/- THE CELL 'sum', in the pinned program and in every row, IS THE sha256 OF THE DUMP (.gsa) THAT YtibdgpnedlpdbaaProg.lean LOADS. Nothing in Lean hashes anything: it is a label: what it is worth is what the hold of that sum in a sandbox is worth. -/
noncomputable def Try.pinned : Pinned := { name := "ytibdgpnedlpdbaa", sum := "e72c1c07be723edca6496eb4619b123cc23673ff4cfc2088575c4fb52ac9e268", checked := Try.checked }
namespace Rows
def none {H : Type} : Left H := { results := [], args := [] }

/-- 'abugidalaw02.WireInts': WHATEVER THE INPUT: true; the input reads as it did. -/
def wireIntsSpec : ChangeSpec := { name := "wireInts", fn := fun _ => fun
  | [d1, d2] => { results := [.lit (.bool true)], args := [d1, d2] }
  | _ => none }
def wireIntsRow : OpenClaim := { program := "ytibdgpnedlpdbaa", sum := "e72c1c07be723edca6496eb4619b123cc23673ff4cfc2088575c4fb52ac9e268", func := "abugida/abugidalaw02.WireInts", spec := "wireInts", inPlace := ["internal/abi.NoEscape"], unfollowed := true, recurses := true, apart := false }
def WireIntsSaid : Prop := wireIntsRow.holds Try.pinned (OpenSpec.ofChange wireIntsSpec)

/-- ITS FALSE NEIGHBOUR: 'it returns false'. Refute it at one input. -/
def wireIntsWrong : ChangeSpec := { name := "wireInts", fn := fun _ => fun
  | [d1, d2] => { results := [.lit (.bool false)], args := [d1, d2] }
  | _ => none }
def WireIntsWrongFalsely : Prop := wireIntsRow.holds Try.pinned (OpenSpec.ofChange wireIntsWrong)

/-- 'abugidalaw02.WireWrites': WHATEVER THE INPUT: true; the input reads as it did. -/
def wireWritesSpec : ChangeSpec := { name := "wireWrites", fn := fun _ => fun
  | [d1, d2] => { results := [.lit (.bool true)], args := [d1, d2] }
  | _ => none }
def wireWritesRow : OpenClaim := { program := "ytibdgpnedlpdbaa", sum := "e72c1c07be723edca6496eb4619b123cc23673ff4cfc2088575c4fb52ac9e268", func := "abugida/abugidalaw02.WireWrites", spec := "wireWrites", inPlace := ["internal/abi.NoEscape"], unfollowed := true, recurses := true, apart := false }
def WireWritesSaid : Prop := wireWritesRow.holds Try.pinned (OpenSpec.ofChange wireWritesSpec)

/-- ITS FALSE NEIGHBOUR: 'it returns false'. Refute it at one input. -/
def wireWritesWrong : ChangeSpec := { name := "wireWrites", fn := fun _ => fun
  | [d1, d2] => { results := [.lit (.bool false)], args := [d1, d2] }
  | _ => none }
def WireWritesWrongFalsely : Prop := wireWritesRow.holds Try.pinned (OpenSpec.ofChange wireWritesWrong)

/-- 'abugidalaw02.WireShort': WHATEVER THE INPUT: true; the input reads as it did. -/
def wireShortSpec : ChangeSpec := { name := "wireShort", fn := fun _ => fun
  | [d1, d2] => { results := [.lit (.bool true)], args := [d1, d2] }
  | _ => none }
def wireShortRow : OpenClaim := { program := "ytibdgpnedlpdbaa", sum := "e72c1c07be723edca6496eb4619b123cc23673ff4cfc2088575c4fb52ac9e268", func := "abugida/abugidalaw02.WireShort", spec := "wireShort", inPlace := ["internal/abi.NoEscape"], unfollowed := true, recurses := true, apart := false }
def WireShortSaid : Prop := wireShortRow.holds Try.pinned (OpenSpec.ofChange wireShortSpec)

/-- ITS FALSE NEIGHBOUR: 'it returns false'. Refute it at one input. -/
def wireShortWrong : ChangeSpec := { name := "wireShort", fn := fun _ => fun
  | [d1, d2] => { results := [.lit (.bool false)], args := [d1, d2] }
  | _ => none }
def WireShortWrongFalsely : Prop := wireShortRow.holds Try.pinned (OpenSpec.ofChange wireShortWrong)

/-- 'abugidalaw02.WireReads': WHATEVER THE INPUT: true; the input reads as it did. -/
def wireReadsSpec : ChangeSpec := { name := "wireReads", fn := fun _ => fun
  | [d1, d2] => { results := [.lit (.bool true)], args := [d1, d2] }
  | _ => none }
def wireReadsRow : OpenClaim := { program := "ytibdgpnedlpdbaa", sum := "e72c1c07be723edca6496eb4619b123cc23673ff4cfc2088575c4fb52ac9e268", func := "abugida/abugidalaw02.WireReads", spec := "wireReads", inPlace := ["internal/abi.NoEscape"], unfollowed := true, recurses := true, apart := false }
def WireReadsSaid : Prop := wireReadsRow.holds Try.pinned (OpenSpec.ofChange wireReadsSpec)

/-- ITS FALSE NEIGHBOUR: 'it returns false'. Refute it at one input. -/
def wireReadsWrong : ChangeSpec := { name := "wireReads", fn := fun _ => fun
  | [d1, d2] => { results := [.lit (.bool false)], args := [d1, d2] }
  | _ => none }
def WireReadsWrongFalsely : Prop := wireReadsRow.holds Try.pinned (OpenSpec.ofChange wireReadsWrong)

/-- 'abugidalaw02.WireAgain': WHATEVER THE INPUT: true; the input reads as it did. -/
def wireAgainSpec : ChangeSpec := { name := "wireAgain", fn := fun _ => fun
  | [d1, d2] => { results := [.lit (.bool true)], args := [d1, d2] }
  | _ => none }
def wireAgainRow : OpenClaim := { program := "ytibdgpnedlpdbaa", sum := "e72c1c07be723edca6496eb4619b123cc23673ff4cfc2088575c4fb52ac9e268", func := "abugida/abugidalaw02.WireAgain", spec := "wireAgain", inPlace := ["internal/abi.NoEscape"], unfollowed := true, recurses := true, apart := false }
def WireAgainSaid : Prop := wireAgainRow.holds Try.pinned (OpenSpec.ofChange wireAgainSpec)

/-- ITS FALSE NEIGHBOUR: 'it returns false'. Refute it at one input. -/
def wireAgainWrong : ChangeSpec := { name := "wireAgain", fn := fun _ => fun
  | [d1, d2] => { results := [.lit (.bool false)], args := [d1, d2] }
  | _ => none }
def WireAgainWrongFalsely : Prop := wireAgainRow.holds Try.pinned (OpenSpec.ofChange wireAgainWrong)

/-- 'abugidalaw02.WireCut': WHATEVER THE INPUT: true; the input reads as it did. -/
def wireCutSpec : ChangeSpec := { name := "wireCut", fn := fun _ => fun
  | [d1, d2, d3] => { results := [.lit (.bool true)], args := [d1, d2, d3] }
  | _ => none }
def wireCutRow : OpenClaim := { program := "ytibdgpnedlpdbaa", sum := "e72c1c07be723edca6496eb4619b123cc23673ff4cfc2088575c4fb52ac9e268", func := "abugida/abugidalaw02.WireCut", spec := "wireCut", inPlace := ["internal/abi.NoEscape"], unfollowed := true, recurses := true, apart := false }
def WireCutSaid : Prop := wireCutRow.holds Try.pinned (OpenSpec.ofChange wireCutSpec)

/-- ITS FALSE NEIGHBOUR: 'it returns false'. Refute it at one input. -/
def wireCutWrong : ChangeSpec := { name := "wireCut", fn := fun _ => fun
  | [d1, d2, d3] => { results := [.lit (.bool false)], args := [d1, d2, d3] }
  | _ => none }
def WireCutWrongFalsely : Prop := wireCutRow.holds Try.pinned (OpenSpec.ofChange wireCutWrong)

/-- 'abugidalaw02.WireBounds': WHATEVER THE INPUT: true; the input reads as it did. -/
def wireBoundsSpec : ChangeSpec := { name := "wireBounds", fn := fun _ => fun
  | [d] => { results := [.lit (.bool true)], args := [d] }
  | _ => none }
def wireBoundsRow : OpenClaim := { program := "ytibdgpnedlpdbaa", sum := "e72c1c07be723edca6496eb4619b123cc23673ff4cfc2088575c4fb52ac9e268", func := "abugida/abugidalaw02.WireBounds", spec := "wireBounds", inPlace := ["internal/abi.NoEscape"], unfollowed := true, recurses := true, apart := false }
def WireBoundsSaid : Prop := wireBoundsRow.holds Try.pinned (OpenSpec.ofChange wireBoundsSpec)

/-- ITS FALSE NEIGHBOUR: 'it returns false'. Refute it at one input. -/
def wireBoundsWrong : ChangeSpec := { name := "wireBounds", fn := fun _ => fun
  | [d] => { results := [.lit (.bool false)], args := [d] }
  | _ => none }
def WireBoundsWrongFalsely : Prop := wireBoundsRow.holds Try.pinned (OpenSpec.ofChange wireBoundsWrong)

/- THE SECOND FORM. 'bulk': how many values and letters a reading holds, each counted each time it is reached (what is shared counts as often as it is met; a slice's spare places count too). A statement '..UptoSaid' is the law's where the arguments, and the package variables that the reading takes, are together of bulk at most 1048576: NARROWER than '..Said'. Prove '..Said' where nothing that the law and all that it calls make is longer than what came in: it says more and counts as full. Else prove '..UptoSaid'. A law counts once. -/
mutual
def uptoBulk {H : Type} : DataW H → Nat
  | .lit (.string bytes) => bytes.length + 1
  | .lit _ => 1
  | .nil => 1
  | .ptr d => uptoBulk d + 1
  | .slice elems spare => uptoBulkAll elems + uptoBulkAll spare + 1
  | .agg parts => uptoBulkAll parts + 1
  | .iface _ d => uptoBulk d + 1
  | .map entries => uptoBulkEntries entries + 1
  | .held _ => 1
def uptoBulkAll {H : Type} : List (DataW H) → Nat
  | [] => 0
  | d :: r => uptoBulk d + uptoBulkAll r
def uptoBulkEntries {H : Type} : List (Lit × DataW H) → Nat
  | [] => 0
  | x :: r => uptoBulkEntry x + uptoBulkEntries r
def uptoBulkEntry {H : Type} : Lit × DataW H → Nat
  | (.string bytes, d) => bytes.length + uptoBulk d + 1
  | (_, d) => uptoBulk d + 1
 end
def uptoSmall : (H : Type) → List (DataW H) → Bool := fun _ ds => decide (uptoBulkAll ds ≤ 1048576)
def OpenSpec.upto (s : _root_.Go.ChangeSpec) : _root_.Go.OpenSpec := { _root_.Go.OpenSpec.ofChange s with cond := some uptoSmall }

/-- 'abugidalaw02.WireInts', WHERE WHAT IT READS IS OF BULK AT MOST 1048576: true; the input reads as it did. -/
def wireIntsUptoRow : OpenClaim := { program := "ytibdgpnedlpdbaa", sum := "e72c1c07be723edca6496eb4619b123cc23673ff4cfc2088575c4fb52ac9e268", func := "abugida/abugidalaw02.WireInts", spec := "wireInts", inPlace := ["internal/abi.NoEscape"], unfollowed := true, recurses := true, apart := false, narrowed := true }
def WireIntsUptoSaid : Prop := wireIntsUptoRow.holds Try.pinned (OpenSpec.upto wireIntsSpec)

/-- 'abugidalaw02.WireWrites', WHERE WHAT IT READS IS OF BULK AT MOST 1048576: true; the input reads as it did. -/
def wireWritesUptoRow : OpenClaim := { program := "ytibdgpnedlpdbaa", sum := "e72c1c07be723edca6496eb4619b123cc23673ff4cfc2088575c4fb52ac9e268", func := "abugida/abugidalaw02.WireWrites", spec := "wireWrites", inPlace := ["internal/abi.NoEscape"], unfollowed := true, recurses := true, apart := false, narrowed := true }
def WireWritesUptoSaid : Prop := wireWritesUptoRow.holds Try.pinned (OpenSpec.upto wireWritesSpec)

/-- 'abugidalaw02.WireShort', WHERE WHAT IT READS IS OF BULK AT MOST 1048576: true; the input reads as it did. -/
def wireShortUptoRow : OpenClaim := { program := "ytibdgpnedlpdbaa", sum := "e72c1c07be723edca6496eb4619b123cc23673ff4cfc2088575c4fb52ac9e268", func := "abugida/abugidalaw02.WireShort", spec := "wireShort", inPlace := ["internal/abi.NoEscape"], unfollowed := true, recurses := true, apart := false, narrowed := true }
def WireShortUptoSaid : Prop := wireShortUptoRow.holds Try.pinned (OpenSpec.upto wireShortSpec)

/-- 'abugidalaw02.WireReads', WHERE WHAT IT READS IS OF BULK AT MOST 1048576: true; the input reads as it did. -/
def wireReadsUptoRow : OpenClaim := { program := "ytibdgpnedlpdbaa", sum := "e72c1c07be723edca6496eb4619b123cc23673ff4cfc2088575c4fb52ac9e268", func := "abugida/abugidalaw02.WireReads", spec := "wireReads", inPlace := ["internal/abi.NoEscape"], unfollowed := true, recurses := true, apart := false, narrowed := true }
def WireReadsUptoSaid : Prop := wireReadsUptoRow.holds Try.pinned (OpenSpec.upto wireReadsSpec)

/-- 'abugidalaw02.WireAgain', WHERE WHAT IT READS IS OF BULK AT MOST 1048576: true; the input reads as it did. -/
def wireAgainUptoRow : OpenClaim := { program := "ytibdgpnedlpdbaa", sum := "e72c1c07be723edca6496eb4619b123cc23673ff4cfc2088575c4fb52ac9e268", func := "abugida/abugidalaw02.WireAgain", spec := "wireAgain", inPlace := ["internal/abi.NoEscape"], unfollowed := true, recurses := true, apart := false, narrowed := true }
def WireAgainUptoSaid : Prop := wireAgainUptoRow.holds Try.pinned (OpenSpec.upto wireAgainSpec)

/-- 'abugidalaw02.WireCut', WHERE WHAT IT READS IS OF BULK AT MOST 1048576: true; the input reads as it did. -/
def wireCutUptoRow : OpenClaim := { program := "ytibdgpnedlpdbaa", sum := "e72c1c07be723edca6496eb4619b123cc23673ff4cfc2088575c4fb52ac9e268", func := "abugida/abugidalaw02.WireCut", spec := "wireCut", inPlace := ["internal/abi.NoEscape"], unfollowed := true, recurses := true, apart := false, narrowed := true }
def WireCutUptoSaid : Prop := wireCutUptoRow.holds Try.pinned (OpenSpec.upto wireCutSpec)

/-- 'abugidalaw02.WireBounds', WHERE WHAT IT READS IS OF BULK AT MOST 1048576: true; the input reads as it did. -/
def wireBoundsUptoRow : OpenClaim := { program := "ytibdgpnedlpdbaa", sum := "e72c1c07be723edca6496eb4619b123cc23673ff4cfc2088575c4fb52ac9e268", func := "abugida/abugidalaw02.WireBounds", spec := "wireBounds", inPlace := ["internal/abi.NoEscape"], unfollowed := true, recurses := true, apart := false, narrowed := true }
def WireBoundsUptoSaid : Prop := wireBoundsUptoRow.holds Try.pinned (OpenSpec.upto wireBoundsSpec)

end Rows
end Go.Proofs.Ytibdgpnedlpdbaa
