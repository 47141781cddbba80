/-
  No cell of these rows narrows 'for every input' (looked for: loops, veiled, ifaces, maps, wideKeys, modest, calm, conditions, laid).
  DERIVED. THE GIVEN ROWS OF THIS SEAT. 5 by the template 'for every input the law returns true; each argument reads behind the call as it read before'; 0 by the template 'total and deterministic' (their statements: YtoleencecfjcjaaTotals.lean).
  GIVEN WITH THE SEED: the statements are not yours to turn. If you find one false, say at which input.
  Laid BY PROGRAM, IN A SANDBOX (cutbox-rows.mjs): the forced cells as the released guide's own fill.sh prints them over the translation 9b0cb9ec2be92735… (all of the seat's roots in one cut). By AI agents, Wed Nov 11 2026. No macro, syntax, notation, axiom, sorry.
-/
import Derived.Test.YtoleencecfjcjaaChecked
import GoSem.Claim
import GoSem.ClaimJoined
import GoSem.ClaimMapViews
import Derived.JoinedTies
import Derived.KernelRfl
namespace Go.Proofs.Ytoleencecfjcjaa
/- THE CELL 'sum', in the pinned program and in every row, IS THE sha256 OF THE DUMP (.gsa) THAT YtoleencecfjcjaaProg.lean LOADS. Nothing in Lean hashes anything: it is a label: what it is worth is what the hold of that sum in a sandbox is worth. -/
noncomputable def Try.pinned : Pinned := { name := "ytoleencecfjcjaa", sum := "9b0cb9ec2be927357666a9df41bc1ef77dc9509455feee1133efbdbe52a3d7d4", checked := Try.checked }
namespace Rows
def none {H : Type} : Left H := { results := [], args := [] }

/-- 'abugidalaw32.AtlasPlays': WHATEVER THE INPUT: true; the input reads as it did. -/
def atlasPlaysSpec : ChangeSpec := { name := "atlasPlays", fn := fun _ => fun
  | [d1, d2] => { results := [.lit (.bool true)], args := [d1, d2] }
  | _ => none }
def atlasPlaysRow : OpenClaim := { program := "ytoleencecfjcjaa", sum := "9b0cb9ec2be927357666a9df41bc1ef77dc9509455feee1133efbdbe52a3d7d4", func := "abugida/abugidalaw32.AtlasPlays", spec := "atlasPlays", inPlace := ["internal/abi.NoEscape"], unfollowed := true, recurses := true, apart := false }
def AtlasPlaysSaid : Prop := atlasPlaysRow.holds Try.pinned (OpenSpec.ofChange atlasPlaysSpec)

/-- ITS FALSE NEIGHBOUR: 'it returns false'. Refute it at one input. -/
def atlasPlaysWrong : ChangeSpec := { name := "atlasPlays", fn := fun _ => fun
  | [d1, d2] => { results := [.lit (.bool false)], args := [d1, d2] }
  | _ => none }
def AtlasPlaysWrongFalsely : Prop := atlasPlaysRow.holds Try.pinned (OpenSpec.ofChange atlasPlaysWrong)

/-- 'abugidalaw32.AtlasApart': WHATEVER THE INPUT: true; the input reads as it did. -/
def atlasApartSpec : ChangeSpec := { name := "atlasApart", fn := fun _ => fun
  | [d1, d2] => { results := [.lit (.bool true)], args := [d1, d2] }
  | _ => none }
def atlasApartRow : OpenClaim := { program := "ytoleencecfjcjaa", sum := "9b0cb9ec2be927357666a9df41bc1ef77dc9509455feee1133efbdbe52a3d7d4", func := "abugida/abugidalaw32.AtlasApart", spec := "atlasApart", inPlace := ["internal/abi.NoEscape"], unfollowed := true, recurses := true, apart := false }
def AtlasApartSaid : Prop := atlasApartRow.holds Try.pinned (OpenSpec.ofChange atlasApartSpec)

/-- ITS FALSE NEIGHBOUR: 'it returns false'. Refute it at one input. -/
def atlasApartWrong : ChangeSpec := { name := "atlasApart", fn := fun _ => fun
  | [d1, d2] => { results := [.lit (.bool false)], args := [d1, d2] }
  | _ => none }
def AtlasApartWrongFalsely : Prop := atlasApartRow.holds Try.pinned (OpenSpec.ofChange atlasApartWrong)

/-- 'abugidalaw32.AtlasOldest': WHATEVER THE INPUT: true; the input reads as it did. -/
def atlasOldestSpec : ChangeSpec := { name := "atlasOldest", fn := fun _ => fun
  | [d1, d2, d3] => { results := [.lit (.bool true)], args := [d1, d2, d3] }
  | _ => none }
def atlasOldestRow : OpenClaim := { program := "ytoleencecfjcjaa", sum := "9b0cb9ec2be927357666a9df41bc1ef77dc9509455feee1133efbdbe52a3d7d4", func := "abugida/abugidalaw32.AtlasOldest", spec := "atlasOldest", inPlace := ["internal/abi.NoEscape"], unfollowed := true, recurses := true, apart := false }
def AtlasOldestSaid : Prop := atlasOldestRow.holds Try.pinned (OpenSpec.ofChange atlasOldestSpec)

/-- ITS FALSE NEIGHBOUR: 'it returns false'. Refute it at one input. -/
def atlasOldestWrong : ChangeSpec := { name := "atlasOldest", fn := fun _ => fun
  | [d1, d2, d3] => { results := [.lit (.bool false)], args := [d1, d2, d3] }
  | _ => none }
def AtlasOldestWrongFalsely : Prop := atlasOldestRow.holds Try.pinned (OpenSpec.ofChange atlasOldestWrong)

/-- 'abugidalaw32.AtlasRaw': WHATEVER THE INPUT: true; the input reads as it did. -/
def atlasRawSpec : ChangeSpec := { name := "atlasRaw", fn := fun _ => fun
  | [d1, d2, d3] => { results := [.lit (.bool true)], args := [d1, d2, d3] }
  | _ => none }
def atlasRawRow : OpenClaim := { program := "ytoleencecfjcjaa", sum := "9b0cb9ec2be927357666a9df41bc1ef77dc9509455feee1133efbdbe52a3d7d4", func := "abugida/abugidalaw32.AtlasRaw", spec := "atlasRaw", inPlace := ["internal/abi.NoEscape"], unfollowed := true, recurses := true, apart := false }
def AtlasRawSaid : Prop := atlasRawRow.holds Try.pinned (OpenSpec.ofChange atlasRawSpec)

/-- ITS FALSE NEIGHBOUR: 'it returns false'. Refute it at one input. -/
def atlasRawWrong : ChangeSpec := { name := "atlasRaw", fn := fun _ => fun
  | [d1, d2, d3] => { results := [.lit (.bool false)], args := [d1, d2, d3] }
  | _ => none }
def AtlasRawWrongFalsely : Prop := atlasRawRow.holds Try.pinned (OpenSpec.ofChange atlasRawWrong)

/-- 'abugidalaw32.AtlasNames': WHATEVER THE INPUT: true; the input reads as it did. -/
def atlasNamesSpec : ChangeSpec := { name := "atlasNames", fn := fun _ => fun
  | [d1, d2, d3] => { results := [.lit (.bool true)], args := [d1, d2, d3] }
  | _ => none }
def atlasNamesRow : OpenClaim := { program := "ytoleencecfjcjaa", sum := "9b0cb9ec2be927357666a9df41bc1ef77dc9509455feee1133efbdbe52a3d7d4", func := "abugida/abugidalaw32.AtlasNames", spec := "atlasNames", inPlace := ["internal/abi.NoEscape"], unfollowed := true, recurses := true, apart := false }
def AtlasNamesSaid : Prop := atlasNamesRow.holds Try.pinned (OpenSpec.ofChange atlasNamesSpec)

/-- ITS FALSE NEIGHBOUR: 'it returns false'. Refute it at one input. -/
def atlasNamesWrong : ChangeSpec := { name := "atlasNames", fn := fun _ => fun
  | [d1, d2, d3] => { results := [.lit (.bool false)], args := [d1, d2, d3] }
  | _ => none }
def AtlasNamesWrongFalsely : Prop := atlasNamesRow.holds Try.pinned (OpenSpec.ofChange atlasNamesWrong)

/- THE SECOND FORM. 'bulk': how many values and letters a reading holds, each counted each time it is reached (what is shared counts as often as it is met; a slice's spare places count too). A statement '..UptoSaid' is the law's where the arguments, and the package variables that the reading takes, are together of bulk at most 1048576: NARROWER than '..Said'. Prove '..Said' where nothing that the law and all that it calls make is longer than what came in: it says more and counts as full. Else prove '..UptoSaid'. A law counts once. -/
mutual
def uptoBulk {H : Type} : DataW H → Nat
  | .lit (.string bytes) => bytes.length + 1
  | .lit _ => 1
  | .nil => 1
  | .ptr d => uptoBulk d + 1
  | .slice elems spare => uptoBulkAll elems + uptoBulkAll spare + 1
  | .agg parts => uptoBulkAll parts + 1
  | .iface _ d => uptoBulk d + 1
  | .map entries => uptoBulkEntries entries + 1
  | .held _ => 1
def uptoBulkAll {H : Type} : List (DataW H) → Nat
  | [] => 0
  | d :: r => uptoBulk d + uptoBulkAll r
def uptoBulkEntries {H : Type} : List (Lit × DataW H) → Nat
  | [] => 0
  | x :: r => uptoBulkEntry x + uptoBulkEntries r
def uptoBulkEntry {H : Type} : Lit × DataW H → Nat
  | (.string bytes, d) => bytes.length + uptoBulk d + 1
  | (_, d) => uptoBulk d + 1
 end
def uptoSmall : (H : Type) → List (DataW H) → Bool := fun _ ds => decide (uptoBulkAll ds ≤ 1048576)
def OpenSpec.upto (s : _root_.Go.ChangeSpec) : _root_.Go.OpenSpec := { _root_.Go.OpenSpec.ofChange s with cond := some uptoSmall }

/-- 'abugidalaw32.AtlasPlays', WHERE WHAT IT READS IS OF BULK AT MOST 1048576: true; the input reads as it did. -/
def atlasPlaysUptoRow : OpenClaim := { program := "ytoleencecfjcjaa", sum := "9b0cb9ec2be927357666a9df41bc1ef77dc9509455feee1133efbdbe52a3d7d4", func := "abugida/abugidalaw32.AtlasPlays", spec := "atlasPlays", inPlace := ["internal/abi.NoEscape"], unfollowed := true, recurses := true, apart := false, narrowed := true }
def AtlasPlaysUptoSaid : Prop := atlasPlaysUptoRow.holds Try.pinned (OpenSpec.upto atlasPlaysSpec)

/-- 'abugidalaw32.AtlasApart', WHERE WHAT IT READS IS OF BULK AT MOST 1048576: true; the input reads as it did. -/
def atlasApartUptoRow : OpenClaim := { program := "ytoleencecfjcjaa", sum := "9b0cb9ec2be927357666a9df41bc1ef77dc9509455feee1133efbdbe52a3d7d4", func := "abugida/abugidalaw32.AtlasApart", spec := "atlasApart", inPlace := ["internal/abi.NoEscape"], unfollowed := true, recurses := true, apart := false, narrowed := true }
def AtlasApartUptoSaid : Prop := atlasApartUptoRow.holds Try.pinned (OpenSpec.upto atlasApartSpec)

/-- 'abugidalaw32.AtlasOldest', WHERE WHAT IT READS IS OF BULK AT MOST 1048576: true; the input reads as it did. -/
def atlasOldestUptoRow : OpenClaim := { program := "ytoleencecfjcjaa", sum := "9b0cb9ec2be927357666a9df41bc1ef77dc9509455feee1133efbdbe52a3d7d4", func := "abugida/abugidalaw32.AtlasOldest", spec := "atlasOldest", inPlace := ["internal/abi.NoEscape"], unfollowed := true, recurses := true, apart := false, narrowed := true }
def AtlasOldestUptoSaid : Prop := atlasOldestUptoRow.holds Try.pinned (OpenSpec.upto atlasOldestSpec)

/-- 'abugidalaw32.AtlasRaw', WHERE WHAT IT READS IS OF BULK AT MOST 1048576: true; the input reads as it did. -/
def atlasRawUptoRow : OpenClaim := { program := "ytoleencecfjcjaa", sum := "9b0cb9ec2be927357666a9df41bc1ef77dc9509455feee1133efbdbe52a3d7d4", func := "abugida/abugidalaw32.AtlasRaw", spec := "atlasRaw", inPlace := ["internal/abi.NoEscape"], unfollowed := true, recurses := true, apart := false, narrowed := true }
def AtlasRawUptoSaid : Prop := atlasRawUptoRow.holds Try.pinned (OpenSpec.upto atlasRawSpec)

/-- 'abugidalaw32.AtlasNames', WHERE WHAT IT READS IS OF BULK AT MOST 1048576: true; the input reads as it did. -/
def atlasNamesUptoRow : OpenClaim := { program := "ytoleencecfjcjaa", sum := "9b0cb9ec2be927357666a9df41bc1ef77dc9509455feee1133efbdbe52a3d7d4", func := "abugida/abugidalaw32.AtlasNames", spec := "atlasNames", inPlace := ["internal/abi.NoEscape"], unfollowed := true, recurses := true, apart := false, narrowed := true }
def AtlasNamesUptoSaid : Prop := atlasNamesUptoRow.holds Try.pinned (OpenSpec.upto atlasNamesSpec)

end Rows
end Go.Proofs.Ytoleencecfjcjaa
