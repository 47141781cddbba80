/-
  No cell of these rows narrows 'for every input' (looked for: loops, veiled, ifaces, maps, wideKeys, modest, calm, conditions, laid).
  DERIVED. THE GIVEN ROWS OF THIS SEAT. 8 by the template 'for every input the law returns true; each argument reads behind the call as it read before'; 0 by the template 'total and deterministic' (their statements: YtgepeapfninmeaaTotals.lean).
  GIVEN WITH THE SEED: the statements are not yours to turn. If you find one false, say at which input.
  Laid BY PROGRAM, IN A SANDBOX (cutbox-rows.mjs): the forced cells as the released guide's own fill.sh prints them over the translation 75f358f36b3c186b… (all of the seat's roots in one cut). By AI agents, Wed Nov 11 2026. No macro, syntax, notation, axiom, sorry.
-/
import Derived.Test.YtgepeapfninmeaaChecked
import GoSem.Claim
import GoSem.ClaimJoined
import GoSem.ClaimMapViews
import Derived.JoinedTies
import Derived.KernelRfl
namespace Go.Proofs.Ytgepeapfninmeaa
/- THE CELL 'sum', in the pinned program and in every row, IS THE sha256 OF THE DUMP (.gsa) THAT YtgepeapfninmeaaProg.lean LOADS. Nothing in Lean hashes anything: it is a label: what it is worth is what the hold of that sum in a sandbox is worth. -/
noncomputable def Try.pinned : Pinned := { name := "ytgepeapfninmeaa", sum := "75f358f36b3c186bc2a20688c6cc1f41a0ae855acc145cd4433e80d854940965", checked := Try.checked }
namespace Rows
def none {H : Type} : Left H := { results := [], args := [] }

/-- 'abugidalaw03.DigestBytes': WHATEVER THE INPUT: true; the input reads as it did. -/
def digestBytesSpec : ChangeSpec := { name := "digestBytes", fn := fun _ => fun
  | [d1, d2] => { results := [.lit (.bool true)], args := [d1, d2] }
  | _ => none }
def digestBytesRow : OpenClaim := { program := "ytgepeapfninmeaa", sum := "75f358f36b3c186bc2a20688c6cc1f41a0ae855acc145cd4433e80d854940965", func := "abugida/abugidalaw03.DigestBytes", spec := "digestBytes", unfollowed := true, recurses := true, apart := false }
def DigestBytesSaid : Prop := digestBytesRow.holds Try.pinned (OpenSpec.ofChange digestBytesSpec)

/-- ITS FALSE NEIGHBOUR: 'it returns false'. Refute it at one input. -/
def digestBytesWrong : ChangeSpec := { name := "digestBytes", fn := fun _ => fun
  | [d1, d2] => { results := [.lit (.bool false)], args := [d1, d2] }
  | _ => none }
def DigestBytesWrongFalsely : Prop := digestBytesRow.holds Try.pinned (OpenSpec.ofChange digestBytesWrong)

/-- 'abugidalaw03.DigestRoots': WHATEVER THE INPUT: true; the input reads as it did. -/
def digestRootsSpec : ChangeSpec := { name := "digestRoots", fn := fun _ => fun
  | [d1, d2] => { results := [.lit (.bool true)], args := [d1, d2] }
  | _ => none }
def digestRootsRow : OpenClaim := { program := "ytgepeapfninmeaa", sum := "75f358f36b3c186bc2a20688c6cc1f41a0ae855acc145cd4433e80d854940965", func := "abugida/abugidalaw03.DigestRoots", spec := "digestRoots", unfollowed := true, recurses := true, apart := false }
def DigestRootsSaid : Prop := digestRootsRow.holds Try.pinned (OpenSpec.ofChange digestRootsSpec)

/-- ITS FALSE NEIGHBOUR: 'it returns false'. Refute it at one input. -/
def digestRootsWrong : ChangeSpec := { name := "digestRoots", fn := fun _ => fun
  | [d1, d2] => { results := [.lit (.bool false)], args := [d1, d2] }
  | _ => none }
def DigestRootsWrongFalsely : Prop := digestRootsRow.holds Try.pinned (OpenSpec.ofChange digestRootsWrong)

/-- 'abugidalaw03.DigestVerifies': WHATEVER THE INPUT: true; the input reads as it did. -/
def digestVerifiesSpec : ChangeSpec := { name := "digestVerifies", fn := fun _ => fun
  | [d1, d2, d3] => { results := [.lit (.bool true)], args := [d1, d2, d3] }
  | _ => none }
def digestVerifiesRow : OpenClaim := { program := "ytgepeapfninmeaa", sum := "75f358f36b3c186bc2a20688c6cc1f41a0ae855acc145cd4433e80d854940965", func := "abugida/abugidalaw03.DigestVerifies", spec := "digestVerifies", unfollowed := true, recurses := true, apart := false }
def DigestVerifiesSaid : Prop := digestVerifiesRow.holds Try.pinned (OpenSpec.ofChange digestVerifiesSpec)

/-- ITS FALSE NEIGHBOUR: 'it returns false'. Refute it at one input. -/
def digestVerifiesWrong : ChangeSpec := { name := "digestVerifies", fn := fun _ => fun
  | [d1, d2, d3] => { results := [.lit (.bool false)], args := [d1, d2, d3] }
  | _ => none }
def DigestVerifiesWrongFalsely : Prop := digestVerifiesRow.holds Try.pinned (OpenSpec.ofChange digestVerifiesWrong)

/-- 'abugidalaw03.DigestProofs': WHATEVER THE INPUT: true; the input reads as it did. -/
def digestProofsSpec : ChangeSpec := { name := "digestProofs", fn := fun _ => fun
  | [d1, d2] => { results := [.lit (.bool true)], args := [d1, d2] }
  | _ => none }
def digestProofsRow : OpenClaim := { program := "ytgepeapfninmeaa", sum := "75f358f36b3c186bc2a20688c6cc1f41a0ae855acc145cd4433e80d854940965", func := "abugida/abugidalaw03.DigestProofs", spec := "digestProofs", unfollowed := true, recurses := true, apart := false }
def DigestProofsSaid : Prop := digestProofsRow.holds Try.pinned (OpenSpec.ofChange digestProofsSpec)

/-- ITS FALSE NEIGHBOUR: 'it returns false'. Refute it at one input. -/
def digestProofsWrong : ChangeSpec := { name := "digestProofs", fn := fun _ => fun
  | [d1, d2] => { results := [.lit (.bool false)], args := [d1, d2] }
  | _ => none }
def DigestProofsWrongFalsely : Prop := digestProofsRow.holds Try.pinned (OpenSpec.ofChange digestProofsWrong)

/-- 'abugidalaw03.DigestOne': WHATEVER THE INPUT: true; the input reads as it did. -/
def digestOneSpec : ChangeSpec := { name := "digestOne", fn := fun _ => fun
  | [d1, d2, d3] => { results := [.lit (.bool true)], args := [d1, d2, d3] }
  | _ => none }
def digestOneRow : OpenClaim := { program := "ytgepeapfninmeaa", sum := "75f358f36b3c186bc2a20688c6cc1f41a0ae855acc145cd4433e80d854940965", func := "abugida/abugidalaw03.DigestOne", spec := "digestOne", unfollowed := true, recurses := true, apart := false }
def DigestOneSaid : Prop := digestOneRow.holds Try.pinned (OpenSpec.ofChange digestOneSpec)

/-- ITS FALSE NEIGHBOUR: 'it returns false'. Refute it at one input. -/
def digestOneWrong : ChangeSpec := { name := "digestOne", fn := fun _ => fun
  | [d1, d2, d3] => { results := [.lit (.bool false)], args := [d1, d2, d3] }
  | _ => none }
def DigestOneWrongFalsely : Prop := digestOneRow.holds Try.pinned (OpenSpec.ofChange digestOneWrong)

/-- 'abugidalaw03.DigestFills': WHATEVER THE INPUT: true; the input reads as it did. -/
def digestFillsSpec : ChangeSpec := { name := "digestFills", fn := fun _ => fun
  | [d] => { results := [.lit (.bool true)], args := [d] }
  | _ => none }
def digestFillsRow : OpenClaim := { program := "ytgepeapfninmeaa", sum := "75f358f36b3c186bc2a20688c6cc1f41a0ae855acc145cd4433e80d854940965", func := "abugida/abugidalaw03.DigestFills", spec := "digestFills", unfollowed := true, recurses := true, apart := false }
def DigestFillsSaid : Prop := digestFillsRow.holds Try.pinned (OpenSpec.ofChange digestFillsSpec)

/-- ITS FALSE NEIGHBOUR: 'it returns false'. Refute it at one input. -/
def digestFillsWrong : ChangeSpec := { name := "digestFills", fn := fun _ => fun
  | [d] => { results := [.lit (.bool false)], args := [d] }
  | _ => none }
def DigestFillsWrongFalsely : Prop := digestFillsRow.holds Try.pinned (OpenSpec.ofChange digestFillsWrong)

/-- 'abugidalaw03.DigestNodes': WHATEVER THE INPUT: true; the input reads as it did. -/
def digestNodesSpec : ChangeSpec := { name := "digestNodes", fn := fun _ => fun
  | [d] => { results := [.lit (.bool true)], args := [d] }
  | _ => none }
def digestNodesRow : OpenClaim := { program := "ytgepeapfninmeaa", sum := "75f358f36b3c186bc2a20688c6cc1f41a0ae855acc145cd4433e80d854940965", func := "abugida/abugidalaw03.DigestNodes", spec := "digestNodes", unfollowed := true, recurses := true, apart := false }
def DigestNodesSaid : Prop := digestNodesRow.holds Try.pinned (OpenSpec.ofChange digestNodesSpec)

/-- ITS FALSE NEIGHBOUR: 'it returns false'. Refute it at one input. -/
def digestNodesWrong : ChangeSpec := { name := "digestNodes", fn := fun _ => fun
  | [d] => { results := [.lit (.bool false)], args := [d] }
  | _ => none }
def DigestNodesWrongFalsely : Prop := digestNodesRow.holds Try.pinned (OpenSpec.ofChange digestNodesWrong)

/-- 'abugidalaw03.DigestTrees': WHATEVER THE INPUT: true; the input reads as it did. -/
def digestTreesSpec : ChangeSpec := { name := "digestTrees", fn := fun _ => fun
  | [d1, d2] => { results := [.lit (.bool true)], args := [d1, d2] }
  | _ => none }
def digestTreesRow : OpenClaim := { program := "ytgepeapfninmeaa", sum := "75f358f36b3c186bc2a20688c6cc1f41a0ae855acc145cd4433e80d854940965", func := "abugida/abugidalaw03.DigestTrees", spec := "digestTrees", unfollowed := true, recurses := true, apart := false }
def DigestTreesSaid : Prop := digestTreesRow.holds Try.pinned (OpenSpec.ofChange digestTreesSpec)

/-- ITS FALSE NEIGHBOUR: 'it returns false'. Refute it at one input. -/
def digestTreesWrong : ChangeSpec := { name := "digestTrees", fn := fun _ => fun
  | [d1, d2] => { results := [.lit (.bool false)], args := [d1, d2] }
  | _ => none }
def DigestTreesWrongFalsely : Prop := digestTreesRow.holds Try.pinned (OpenSpec.ofChange digestTreesWrong)

/- THE SECOND FORM. 'bulk': how many values and letters a reading holds, each counted each time it is reached (what is shared counts as often as it is met; a slice's spare places count too). A statement '..UptoSaid' is the law's where the arguments, and the package variables that the reading takes, are together of bulk at most 1048576: NARROWER than '..Said'. Prove '..Said' where nothing that the law and all that it calls make is longer than what came in: it says more and counts as full. Else prove '..UptoSaid'. A law counts once. -/
mutual
def uptoBulk {H : Type} : DataW H → Nat
  | .lit (.string bytes) => bytes.length + 1
  | .lit _ => 1
  | .nil => 1
  | .ptr d => uptoBulk d + 1
  | .slice elems spare => uptoBulkAll elems + uptoBulkAll spare + 1
  | .agg parts => uptoBulkAll parts + 1
  | .iface _ d => uptoBulk d + 1
  | .map entries => uptoBulkEntries entries + 1
  | .held _ => 1
def uptoBulkAll {H : Type} : List (DataW H) → Nat
  | [] => 0
  | d :: r => uptoBulk d + uptoBulkAll r
def uptoBulkEntries {H : Type} : List (Lit × DataW H) → Nat
  | [] => 0
  | x :: r => uptoBulkEntry x + uptoBulkEntries r
def uptoBulkEntry {H : Type} : Lit × DataW H → Nat
  | (.string bytes, d) => bytes.length + uptoBulk d + 1
  | (_, d) => uptoBulk d + 1
 end
def uptoSmall : (H : Type) → List (DataW H) → Bool := fun _ ds => decide (uptoBulkAll ds ≤ 1048576)
def OpenSpec.upto (s : _root_.Go.ChangeSpec) : _root_.Go.OpenSpec := { _root_.Go.OpenSpec.ofChange s with cond := some uptoSmall }

/-- 'abugidalaw03.DigestBytes', WHERE WHAT IT READS IS OF BULK AT MOST 1048576: true; the input reads as it did. -/
def digestBytesUptoRow : OpenClaim := { program := "ytgepeapfninmeaa", sum := "75f358f36b3c186bc2a20688c6cc1f41a0ae855acc145cd4433e80d854940965", func := "abugida/abugidalaw03.DigestBytes", spec := "digestBytes", unfollowed := true, recurses := true, apart := false, narrowed := true }
def DigestBytesUptoSaid : Prop := digestBytesUptoRow.holds Try.pinned (OpenSpec.upto digestBytesSpec)

/-- 'abugidalaw03.DigestRoots', WHERE WHAT IT READS IS OF BULK AT MOST 1048576: true; the input reads as it did. -/
def digestRootsUptoRow : OpenClaim := { program := "ytgepeapfninmeaa", sum := "75f358f36b3c186bc2a20688c6cc1f41a0ae855acc145cd4433e80d854940965", func := "abugida/abugidalaw03.DigestRoots", spec := "digestRoots", unfollowed := true, recurses := true, apart := false, narrowed := true }
def DigestRootsUptoSaid : Prop := digestRootsUptoRow.holds Try.pinned (OpenSpec.upto digestRootsSpec)

/-- 'abugidalaw03.DigestVerifies', WHERE WHAT IT READS IS OF BULK AT MOST 1048576: true; the input reads as it did. -/
def digestVerifiesUptoRow : OpenClaim := { program := "ytgepeapfninmeaa", sum := "75f358f36b3c186bc2a20688c6cc1f41a0ae855acc145cd4433e80d854940965", func := "abugida/abugidalaw03.DigestVerifies", spec := "digestVerifies", unfollowed := true, recurses := true, apart := false, narrowed := true }
def DigestVerifiesUptoSaid : Prop := digestVerifiesUptoRow.holds Try.pinned (OpenSpec.upto digestVerifiesSpec)

/-- 'abugidalaw03.DigestProofs', WHERE WHAT IT READS IS OF BULK AT MOST 1048576: true; the input reads as it did. -/
def digestProofsUptoRow : OpenClaim := { program := "ytgepeapfninmeaa", sum := "75f358f36b3c186bc2a20688c6cc1f41a0ae855acc145cd4433e80d854940965", func := "abugida/abugidalaw03.DigestProofs", spec := "digestProofs", unfollowed := true, recurses := true, apart := false, narrowed := true }
def DigestProofsUptoSaid : Prop := digestProofsUptoRow.holds Try.pinned (OpenSpec.upto digestProofsSpec)

/-- 'abugidalaw03.DigestOne', WHERE WHAT IT READS IS OF BULK AT MOST 1048576: true; the input reads as it did. -/
def digestOneUptoRow : OpenClaim := { program := "ytgepeapfninmeaa", sum := "75f358f36b3c186bc2a20688c6cc1f41a0ae855acc145cd4433e80d854940965", func := "abugida/abugidalaw03.DigestOne", spec := "digestOne", unfollowed := true, recurses := true, apart := false, narrowed := true }
def DigestOneUptoSaid : Prop := digestOneUptoRow.holds Try.pinned (OpenSpec.upto digestOneSpec)

/-- 'abugidalaw03.DigestFills', WHERE WHAT IT READS IS OF BULK AT MOST 1048576: true; the input reads as it did. -/
def digestFillsUptoRow : OpenClaim := { program := "ytgepeapfninmeaa", sum := "75f358f36b3c186bc2a20688c6cc1f41a0ae855acc145cd4433e80d854940965", func := "abugida/abugidalaw03.DigestFills", spec := "digestFills", unfollowed := true, recurses := true, apart := false, narrowed := true }
def DigestFillsUptoSaid : Prop := digestFillsUptoRow.holds Try.pinned (OpenSpec.upto digestFillsSpec)

/-- 'abugidalaw03.DigestNodes', WHERE WHAT IT READS IS OF BULK AT MOST 1048576: true; the input reads as it did. -/
def digestNodesUptoRow : OpenClaim := { program := "ytgepeapfninmeaa", sum := "75f358f36b3c186bc2a20688c6cc1f41a0ae855acc145cd4433e80d854940965", func := "abugida/abugidalaw03.DigestNodes", spec := "digestNodes", unfollowed := true, recurses := true, apart := false, narrowed := true }
def DigestNodesUptoSaid : Prop := digestNodesUptoRow.holds Try.pinned (OpenSpec.upto digestNodesSpec)

/-- 'abugidalaw03.DigestTrees', WHERE WHAT IT READS IS OF BULK AT MOST 1048576: true; the input reads as it did. -/
def digestTreesUptoRow : OpenClaim := { program := "ytgepeapfninmeaa", sum := "75f358f36b3c186bc2a20688c6cc1f41a0ae855acc145cd4433e80d854940965", func := "abugida/abugidalaw03.DigestTrees", spec := "digestTrees", unfollowed := true, recurses := true, apart := false, narrowed := true }
def DigestTreesUptoSaid : Prop := digestTreesUptoRow.holds Try.pinned (OpenSpec.upto digestTreesSpec)

end Rows
end Go.Proofs.Ytgepeapfninmeaa
