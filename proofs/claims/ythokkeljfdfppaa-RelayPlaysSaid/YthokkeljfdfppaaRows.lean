/-
  No cell of these rows narrows 'for every input' (looked for: loops, veiled, ifaces, maps, wideKeys, modest, calm, conditions, laid).
  DERIVED. THE GIVEN ROWS OF THIS SEAT. 7 by the template 'for every input the law returns true; each argument reads behind the call as it read before'; 0 by the template 'total and deterministic' (their statements: YthokkeljfdfppaaTotals.lean).
  GIVEN WITH THE SEED: the statements are not yours to turn. If you find one false, say at which input.
  Laid BY PROGRAM, IN A SANDBOX (cutbox-rows.mjs): the forced cells as the released guide's own fill.sh prints them over the translation 59d0f85a9d1d44df… (all of the seat's roots in one cut). By AI agents, Wed Nov 11 2026. No macro, syntax, notation, axiom, sorry.
-/
import Derived.Test.YthokkeljfdfppaaChecked
import GoSem.Claim
import GoSem.ClaimJoined
import GoSem.ClaimMapViews
import Derived.JoinedTies
import Derived.KernelRfl
namespace Go.Proofs.Ythokkeljfdfppaa
/- THE CELL 'sum', in the pinned program and in every row, IS THE sha256 OF THE DUMP (.gsa) THAT YthokkeljfdfppaaProg.lean LOADS. Nothing in Lean hashes anything: it is a label: what it is worth is what the hold of that sum in a sandbox is worth. -/
noncomputable def Try.pinned : Pinned := { name := "ythokkeljfdfppaa", sum := "59d0f85a9d1d44dfbbe4b583240b20478364073af5f37b8644d52283e47a310d", checked := Try.checked }
namespace Rows
def none {H : Type} : Left H := { results := [], args := [] }

/-- 'abugidalaw32.AtlasNames': WHATEVER THE INPUT: true; the input reads as it did. -/
def atlasNamesSpec : ChangeSpec := { name := "atlasNames", fn := fun _ => fun
  | [d1, d2, d3] => { results := [.lit (.bool true)], args := [d1, d2, d3] }
  | _ => none }
def atlasNamesRow : OpenClaim := { program := "ythokkeljfdfppaa", sum := "59d0f85a9d1d44dfbbe4b583240b20478364073af5f37b8644d52283e47a310d", func := "abugida/abugidalaw32.AtlasNames", spec := "atlasNames", inPlace := ["internal/abi.NoEscape"], unfollowed := true, recurses := true, plainKeys := false, apart := false }
def AtlasNamesSaid : Prop := atlasNamesRow.holds Try.pinned (OpenSpec.ofChange atlasNamesSpec)

/-- ITS FALSE NEIGHBOUR: 'it returns false'. Refute it at one input. -/
def atlasNamesWrong : ChangeSpec := { name := "atlasNames", fn := fun _ => fun
  | [d1, d2, d3] => { results := [.lit (.bool false)], args := [d1, d2, d3] }
  | _ => none }
def AtlasNamesWrongFalsely : Prop := atlasNamesRow.holds Try.pinned (OpenSpec.ofChange atlasNamesWrong)

/-- 'abugidalaw35.RelayAsks': WHATEVER THE INPUT: true; the input reads as it did. -/
def relayAsksSpec : ChangeSpec := { name := "relayAsks", fn := fun _ => fun
  | [d1, d2, d3] => { results := [.lit (.bool true)], args := [d1, d2, d3] }
  | _ => none }
def relayAsksRow : OpenClaim := { program := "ythokkeljfdfppaa", sum := "59d0f85a9d1d44dfbbe4b583240b20478364073af5f37b8644d52283e47a310d", func := "abugida/abugidalaw35.RelayAsks", spec := "relayAsks", inPlace := ["internal/abi.NoEscape"], unfollowed := true, recurses := true, plainKeys := false, apart := false }
def RelayAsksSaid : Prop := relayAsksRow.holds Try.pinned (OpenSpec.ofChange relayAsksSpec)

/-- ITS FALSE NEIGHBOUR: 'it returns false'. Refute it at one input. -/
def relayAsksWrong : ChangeSpec := { name := "relayAsks", fn := fun _ => fun
  | [d1, d2, d3] => { results := [.lit (.bool false)], args := [d1, d2, d3] }
  | _ => none }
def RelayAsksWrongFalsely : Prop := relayAsksRow.holds Try.pinned (OpenSpec.ofChange relayAsksWrong)

/-- 'abugidalaw35.RelayTells': WHATEVER THE INPUT: true; the input reads as it did. -/
def relayTellsSpec : ChangeSpec := { name := "relayTells", fn := fun _ => fun
  | [d1, d2] => { results := [.lit (.bool true)], args := [d1, d2] }
  | _ => none }
def relayTellsRow : OpenClaim := { program := "ythokkeljfdfppaa", sum := "59d0f85a9d1d44dfbbe4b583240b20478364073af5f37b8644d52283e47a310d", func := "abugida/abugidalaw35.RelayTells", spec := "relayTells", inPlace := ["internal/abi.NoEscape"], unfollowed := true, recurses := true, plainKeys := false, apart := false }
def RelayTellsSaid : Prop := relayTellsRow.holds Try.pinned (OpenSpec.ofChange relayTellsSpec)

/-- ITS FALSE NEIGHBOUR: 'it returns false'. Refute it at one input. -/
def relayTellsWrong : ChangeSpec := { name := "relayTells", fn := fun _ => fun
  | [d1, d2] => { results := [.lit (.bool false)], args := [d1, d2] }
  | _ => none }
def RelayTellsWrongFalsely : Prop := relayTellsRow.holds Try.pinned (OpenSpec.ofChange relayTellsWrong)

/-- 'abugidalaw35.RelayReads': WHATEVER THE INPUT: true; the input reads as it did. -/
def relayReadsSpec : ChangeSpec := { name := "relayReads", fn := fun _ => fun
  | [d1, d2, d3] => { results := [.lit (.bool true)], args := [d1, d2, d3] }
  | _ => none }
def relayReadsRow : OpenClaim := { program := "ythokkeljfdfppaa", sum := "59d0f85a9d1d44dfbbe4b583240b20478364073af5f37b8644d52283e47a310d", func := "abugida/abugidalaw35.RelayReads", spec := "relayReads", inPlace := ["internal/abi.NoEscape"], unfollowed := true, recurses := true, plainKeys := false, apart := false }
def RelayReadsSaid : Prop := relayReadsRow.holds Try.pinned (OpenSpec.ofChange relayReadsSpec)

/-- ITS FALSE NEIGHBOUR: 'it returns false'. Refute it at one input. -/
def relayReadsWrong : ChangeSpec := { name := "relayReads", fn := fun _ => fun
  | [d1, d2, d3] => { results := [.lit (.bool false)], args := [d1, d2, d3] }
  | _ => none }
def RelayReadsWrongFalsely : Prop := relayReadsRow.holds Try.pinned (OpenSpec.ofChange relayReadsWrong)

/-- 'abugidalaw35.RelayPlays': WHATEVER THE INPUT: true; the input reads as it did. -/
def relayPlaysSpec : ChangeSpec := { name := "relayPlays", fn := fun _ => fun
  | [d1, d2] => { results := [.lit (.bool true)], args := [d1, d2] }
  | _ => none }
def relayPlaysRow : OpenClaim := { program := "ythokkeljfdfppaa", sum := "59d0f85a9d1d44dfbbe4b583240b20478364073af5f37b8644d52283e47a310d", func := "abugida/abugidalaw35.RelayPlays", spec := "relayPlays", inPlace := ["internal/abi.NoEscape"], unfollowed := true, recurses := true, plainKeys := false, apart := false }
def RelayPlaysSaid : Prop := relayPlaysRow.holds Try.pinned (OpenSpec.ofChange relayPlaysSpec)

/-- ITS FALSE NEIGHBOUR: 'it returns false'. Refute it at one input. -/
def relayPlaysWrong : ChangeSpec := { name := "relayPlays", fn := fun _ => fun
  | [d1, d2] => { results := [.lit (.bool false)], args := [d1, d2] }
  | _ => none }
def RelayPlaysWrongFalsely : Prop := relayPlaysRow.holds Try.pinned (OpenSpec.ofChange relayPlaysWrong)

/-- 'abugidalaw35.RelayKeeps': WHATEVER THE INPUT: true; the input reads as it did. -/
def relayKeepsSpec : ChangeSpec := { name := "relayKeeps", fn := fun _ => fun
  | [d1, d2] => { results := [.lit (.bool true)], args := [d1, d2] }
  | _ => none }
def relayKeepsRow : OpenClaim := { program := "ythokkeljfdfppaa", sum := "59d0f85a9d1d44dfbbe4b583240b20478364073af5f37b8644d52283e47a310d", func := "abugida/abugidalaw35.RelayKeeps", spec := "relayKeeps", inPlace := ["internal/abi.NoEscape"], unfollowed := true, recurses := true, plainKeys := false, apart := false }
def RelayKeepsSaid : Prop := relayKeepsRow.holds Try.pinned (OpenSpec.ofChange relayKeepsSpec)

/-- ITS FALSE NEIGHBOUR: 'it returns false'. Refute it at one input. -/
def relayKeepsWrong : ChangeSpec := { name := "relayKeeps", fn := fun _ => fun
  | [d1, d2] => { results := [.lit (.bool false)], args := [d1, d2] }
  | _ => none }
def RelayKeepsWrongFalsely : Prop := relayKeepsRow.holds Try.pinned (OpenSpec.ofChange relayKeepsWrong)

/-- 'abugidalaw35.RelayNothing': WHATEVER THE INPUT: true; the input reads as it did. -/
def relayNothingSpec : ChangeSpec := { name := "relayNothing", fn := fun _ => fun
  | [d1, d2, d3] => { results := [.lit (.bool true)], args := [d1, d2, d3] }
  | _ => none }
def relayNothingRow : OpenClaim := { program := "ythokkeljfdfppaa", sum := "59d0f85a9d1d44dfbbe4b583240b20478364073af5f37b8644d52283e47a310d", func := "abugida/abugidalaw35.RelayNothing", spec := "relayNothing", inPlace := ["internal/abi.NoEscape"], unfollowed := true, recurses := true, plainKeys := false, apart := false }
def RelayNothingSaid : Prop := relayNothingRow.holds Try.pinned (OpenSpec.ofChange relayNothingSpec)

/-- ITS FALSE NEIGHBOUR: 'it returns false'. Refute it at one input. -/
def relayNothingWrong : ChangeSpec := { name := "relayNothing", fn := fun _ => fun
  | [d1, d2, d3] => { results := [.lit (.bool false)], args := [d1, d2, d3] }
  | _ => none }
def RelayNothingWrongFalsely : Prop := relayNothingRow.holds Try.pinned (OpenSpec.ofChange relayNothingWrong)

/- THE SECOND FORM. 'bulk': how many values and letters a reading holds, each counted each time it is reached (what is shared counts as often as it is met; a slice's spare places count too). A statement '..UptoSaid' is the law's where the arguments, and the package variables that the reading takes, are together of bulk at most 1048576: NARROWER than '..Said'. Prove '..Said' where nothing that the law and all that it calls make is longer than what came in: it says more and counts as full. Else prove '..UptoSaid'. A law counts once. -/
mutual
def uptoBulk {H : Type} : DataW H → Nat
  | .lit (.string bytes) => bytes.length + 1
  | .lit _ => 1
  | .nil => 1
  | .ptr d => uptoBulk d + 1
  | .slice elems spare => uptoBulkAll elems + uptoBulkAll spare + 1
  | .agg parts => uptoBulkAll parts + 1
  | .iface _ d => uptoBulk d + 1
  | .map entries => uptoBulkEntries entries + 1
  | .held _ => 1
def uptoBulkAll {H : Type} : List (DataW H) → Nat
  | [] => 0
  | d :: r => uptoBulk d + uptoBulkAll r
def uptoBulkEntries {H : Type} : List (Lit × DataW H) → Nat
  | [] => 0
  | x :: r => uptoBulkEntry x + uptoBulkEntries r
def uptoBulkEntry {H : Type} : Lit × DataW H → Nat
  | (.string bytes, d) => bytes.length + uptoBulk d + 1
  | (_, d) => uptoBulk d + 1
 end
def uptoSmall : (H : Type) → List (DataW H) → Bool := fun _ ds => decide (uptoBulkAll ds ≤ 1048576)
def OpenSpec.upto (s : _root_.Go.ChangeSpec) : _root_.Go.OpenSpec := { _root_.Go.OpenSpec.ofChange s with cond := some uptoSmall }

/-- 'abugidalaw32.AtlasNames', WHERE WHAT IT READS IS OF BULK AT MOST 1048576: true; the input reads as it did. -/
def atlasNamesUptoRow : OpenClaim := { program := "ythokkeljfdfppaa", sum := "59d0f85a9d1d44dfbbe4b583240b20478364073af5f37b8644d52283e47a310d", func := "abugida/abugidalaw32.AtlasNames", spec := "atlasNames", inPlace := ["internal/abi.NoEscape"], unfollowed := true, recurses := true, plainKeys := false, apart := false, narrowed := true }
def AtlasNamesUptoSaid : Prop := atlasNamesUptoRow.holds Try.pinned (OpenSpec.upto atlasNamesSpec)

/-- 'abugidalaw35.RelayAsks', WHERE WHAT IT READS IS OF BULK AT MOST 1048576: true; the input reads as it did. -/
def relayAsksUptoRow : OpenClaim := { program := "ythokkeljfdfppaa", sum := "59d0f85a9d1d44dfbbe4b583240b20478364073af5f37b8644d52283e47a310d", func := "abugida/abugidalaw35.RelayAsks", spec := "relayAsks", inPlace := ["internal/abi.NoEscape"], unfollowed := true, recurses := true, plainKeys := false, apart := false, narrowed := true }
def RelayAsksUptoSaid : Prop := relayAsksUptoRow.holds Try.pinned (OpenSpec.upto relayAsksSpec)

/-- 'abugidalaw35.RelayTells', WHERE WHAT IT READS IS OF BULK AT MOST 1048576: true; the input reads as it did. -/
def relayTellsUptoRow : OpenClaim := { program := "ythokkeljfdfppaa", sum := "59d0f85a9d1d44dfbbe4b583240b20478364073af5f37b8644d52283e47a310d", func := "abugida/abugidalaw35.RelayTells", spec := "relayTells", inPlace := ["internal/abi.NoEscape"], unfollowed := true, recurses := true, plainKeys := false, apart := false, narrowed := true }
def RelayTellsUptoSaid : Prop := relayTellsUptoRow.holds Try.pinned (OpenSpec.upto relayTellsSpec)

/-- 'abugidalaw35.RelayReads', WHERE WHAT IT READS IS OF BULK AT MOST 1048576: true; the input reads as it did. -/
def relayReadsUptoRow : OpenClaim := { program := "ythokkeljfdfppaa", sum := "59d0f85a9d1d44dfbbe4b583240b20478364073af5f37b8644d52283e47a310d", func := "abugida/abugidalaw35.RelayReads", spec := "relayReads", inPlace := ["internal/abi.NoEscape"], unfollowed := true, recurses := true, plainKeys := false, apart := false, narrowed := true }
def RelayReadsUptoSaid : Prop := relayReadsUptoRow.holds Try.pinned (OpenSpec.upto relayReadsSpec)

/-- 'abugidalaw35.RelayPlays', WHERE WHAT IT READS IS OF BULK AT MOST 1048576: true; the input reads as it did. -/
def relayPlaysUptoRow : OpenClaim := { program := "ythokkeljfdfppaa", sum := "59d0f85a9d1d44dfbbe4b583240b20478364073af5f37b8644d52283e47a310d", func := "abugida/abugidalaw35.RelayPlays", spec := "relayPlays", inPlace := ["internal/abi.NoEscape"], unfollowed := true, recurses := true, plainKeys := false, apart := false, narrowed := true }
def RelayPlaysUptoSaid : Prop := relayPlaysUptoRow.holds Try.pinned (OpenSpec.upto relayPlaysSpec)

/-- 'abugidalaw35.RelayKeeps', WHERE WHAT IT READS IS OF BULK AT MOST 1048576: true; the input reads as it did. -/
def relayKeepsUptoRow : OpenClaim := { program := "ythokkeljfdfppaa", sum := "59d0f85a9d1d44dfbbe4b583240b20478364073af5f37b8644d52283e47a310d", func := "abugida/abugidalaw35.RelayKeeps", spec := "relayKeeps", inPlace := ["internal/abi.NoEscape"], unfollowed := true, recurses := true, plainKeys := false, apart := false, narrowed := true }
def RelayKeepsUptoSaid : Prop := relayKeepsUptoRow.holds Try.pinned (OpenSpec.upto relayKeepsSpec)

/-- 'abugidalaw35.RelayNothing', WHERE WHAT IT READS IS OF BULK AT MOST 1048576: true; the input reads as it did. -/
def relayNothingUptoRow : OpenClaim := { program := "ythokkeljfdfppaa", sum := "59d0f85a9d1d44dfbbe4b583240b20478364073af5f37b8644d52283e47a310d", func := "abugida/abugidalaw35.RelayNothing", spec := "relayNothing", inPlace := ["internal/abi.NoEscape"], unfollowed := true, recurses := true, plainKeys := false, apart := false, narrowed := true }
def RelayNothingUptoSaid : Prop := relayNothingUptoRow.holds Try.pinned (OpenSpec.upto relayNothingSpec)

end Rows
end Go.Proofs.Ythokkeljfdfppaa
