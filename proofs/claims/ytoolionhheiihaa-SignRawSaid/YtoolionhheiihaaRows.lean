/-
  No cell of these rows narrows 'for every input' (looked for: loops, veiled, ifaces, maps, wideKeys, modest, calm, conditions, laid).
  DERIVED. THE GIVEN ROWS OF THIS SEAT. 7 by the template 'for every input the law returns true; each argument reads behind the call as it read before'; 0 by the template 'total and deterministic' (their statements: YtoolionhheiihaaTotals.lean).
  GIVEN WITH THE SEED: the statements are not yours to turn. If you find one false, say at which input.
  Laid BY PROGRAM, IN A SANDBOX (cutbox-rows.mjs): the forced cells as the released guide's own fill.sh prints them over the translation 9d4d2d301c99c66f… (all of the seat's roots in one cut). By AI agents, Wed Nov 11 2026. No macro, syntax, notation, axiom, sorry.
-/
import Derived.Test.YtoolionhheiihaaChecked
import GoSem.Claim
import GoSem.ClaimJoined
import GoSem.ClaimMapViews
import Derived.JoinedTies
import Derived.KernelRfl
namespace Go.Proofs.Ytoolionhheiihaa
/- THE CELL 'sum', in the pinned program and in every row, IS THE sha256 OF THE DUMP (.gsa) THAT YtoolionhheiihaaProg.lean LOADS. Nothing in Lean hashes anything: it is a label: what it is worth is what the hold of that sum in a sandbox is worth. -/
noncomputable def Try.pinned : Pinned := { name := "ytoolionhheiihaa", sum := "9d4d2d301c99c66f1f984d56e9c36ae5563f9fbde3ad1f594d95ff5d010a4827", checked := Try.checked }
namespace Rows
def none {H : Type} : Left H := { results := [], args := [] }

/-- 'abugidalaw04.SignPublics': WHATEVER THE INPUT: true; the input reads as it did. -/
def signPublicsSpec : ChangeSpec := { name := "signPublics", fn := fun _ => fun
  | [d1, d2] => { results := [.lit (.bool true)], args := [d1, d2] }
  | _ => none }
def signPublicsRow : OpenClaim := { program := "ytoolionhheiihaa", sum := "9d4d2d301c99c66f1f984d56e9c36ae5563f9fbde3ad1f594d95ff5d010a4827", func := "abugida/abugidalaw04.SignPublics", spec := "signPublics", inPlace := ["internal/abi.NoEscape"], unfollowed := true, recurses := true, apart := false }
def SignPublicsSaid : Prop := signPublicsRow.holds Try.pinned (OpenSpec.ofChange signPublicsSpec)

/-- ITS FALSE NEIGHBOUR: 'it returns false'. Refute it at one input. -/
def signPublicsWrong : ChangeSpec := { name := "signPublics", fn := fun _ => fun
  | [d1, d2] => { results := [.lit (.bool false)], args := [d1, d2] }
  | _ => none }
def SignPublicsWrongFalsely : Prop := signPublicsRow.holds Try.pinned (OpenSpec.ofChange signPublicsWrong)

/-- 'abugidalaw04.SignSigns': WHATEVER THE INPUT: true; the input reads as it did. -/
def signSignsSpec : ChangeSpec := { name := "signSigns", fn := fun _ => fun
  | [d1, d2, d3] => { results := [.lit (.bool true)], args := [d1, d2, d3] }
  | _ => none }
def signSignsRow : OpenClaim := { program := "ytoolionhheiihaa", sum := "9d4d2d301c99c66f1f984d56e9c36ae5563f9fbde3ad1f594d95ff5d010a4827", func := "abugida/abugidalaw04.SignSigns", spec := "signSigns", inPlace := ["internal/abi.NoEscape"], unfollowed := true, recurses := true, apart := false }
def SignSignsSaid : Prop := signSignsRow.holds Try.pinned (OpenSpec.ofChange signSignsSpec)

/-- ITS FALSE NEIGHBOUR: 'it returns false'. Refute it at one input. -/
def signSignsWrong : ChangeSpec := { name := "signSigns", fn := fun _ => fun
  | [d1, d2, d3] => { results := [.lit (.bool false)], args := [d1, d2, d3] }
  | _ => none }
def SignSignsWrongFalsely : Prop := signSignsRow.holds Try.pinned (OpenSpec.ofChange signSignsWrong)

/-- 'abugidalaw04.SignRight': WHATEVER THE INPUT: true; the input reads as it did. -/
def signRightSpec : ChangeSpec := { name := "signRight", fn := fun _ => fun
  | [d1, d2, d3] => { results := [.lit (.bool true)], args := [d1, d2, d3] }
  | _ => none }
def signRightRow : OpenClaim := { program := "ytoolionhheiihaa", sum := "9d4d2d301c99c66f1f984d56e9c36ae5563f9fbde3ad1f594d95ff5d010a4827", func := "abugida/abugidalaw04.SignRight", spec := "signRight", inPlace := ["internal/abi.NoEscape"], unfollowed := true, recurses := true, apart := false }
def SignRightSaid : Prop := signRightRow.holds Try.pinned (OpenSpec.ofChange signRightSpec)

/-- ITS FALSE NEIGHBOUR: 'it returns false'. Refute it at one input. -/
def signRightWrong : ChangeSpec := { name := "signRight", fn := fun _ => fun
  | [d1, d2, d3] => { results := [.lit (.bool false)], args := [d1, d2, d3] }
  | _ => none }
def SignRightWrongFalsely : Prop := signRightRow.holds Try.pinned (OpenSpec.ofChange signRightWrong)

/-- 'abugidalaw04.SignForm': WHATEVER THE INPUT: true; the input reads as it did. -/
def signFormSpec : ChangeSpec := { name := "signForm", fn := fun _ => fun
  | [d1, d2, d3] => { results := [.lit (.bool true)], args := [d1, d2, d3] }
  | _ => none }
def signFormRow : OpenClaim := { program := "ytoolionhheiihaa", sum := "9d4d2d301c99c66f1f984d56e9c36ae5563f9fbde3ad1f594d95ff5d010a4827", func := "abugida/abugidalaw04.SignForm", spec := "signForm", inPlace := ["internal/abi.NoEscape"], unfollowed := true, recurses := true, apart := false }
def SignFormSaid : Prop := signFormRow.holds Try.pinned (OpenSpec.ofChange signFormSpec)

/-- ITS FALSE NEIGHBOUR: 'it returns false'. Refute it at one input. -/
def signFormWrong : ChangeSpec := { name := "signForm", fn := fun _ => fun
  | [d1, d2, d3] => { results := [.lit (.bool false)], args := [d1, d2, d3] }
  | _ => none }
def SignFormWrongFalsely : Prop := signFormRow.holds Try.pinned (OpenSpec.ofChange signFormWrong)

/-- 'abugidalaw04.SignChecks': WHATEVER THE INPUT: true; the input reads as it did. -/
def signChecksSpec : ChangeSpec := { name := "signChecks", fn := fun _ => fun
  | [d1, d2, d3] => { results := [.lit (.bool true)], args := [d1, d2, d3] }
  | _ => none }
def signChecksRow : OpenClaim := { program := "ytoolionhheiihaa", sum := "9d4d2d301c99c66f1f984d56e9c36ae5563f9fbde3ad1f594d95ff5d010a4827", func := "abugida/abugidalaw04.SignChecks", spec := "signChecks", inPlace := ["internal/abi.NoEscape"], unfollowed := true, recurses := true, apart := false }
def SignChecksSaid : Prop := signChecksRow.holds Try.pinned (OpenSpec.ofChange signChecksSpec)

/-- ITS FALSE NEIGHBOUR: 'it returns false'. Refute it at one input. -/
def signChecksWrong : ChangeSpec := { name := "signChecks", fn := fun _ => fun
  | [d1, d2, d3] => { results := [.lit (.bool false)], args := [d1, d2, d3] }
  | _ => none }
def SignChecksWrongFalsely : Prop := signChecksRow.holds Try.pinned (OpenSpec.ofChange signChecksWrong)

/-- 'abugidalaw04.SignRaw': WHATEVER THE INPUT: true; the input reads as it did. -/
def signRawSpec : ChangeSpec := { name := "signRaw", fn := fun _ => fun
  | [d1, d2, d3] => { results := [.lit (.bool true)], args := [d1, d2, d3] }
  | _ => none }
def signRawRow : OpenClaim := { program := "ytoolionhheiihaa", sum := "9d4d2d301c99c66f1f984d56e9c36ae5563f9fbde3ad1f594d95ff5d010a4827", func := "abugida/abugidalaw04.SignRaw", spec := "signRaw", inPlace := ["internal/abi.NoEscape"], unfollowed := true, recurses := true, apart := false }
def SignRawSaid : Prop := signRawRow.holds Try.pinned (OpenSpec.ofChange signRawSpec)

/-- ITS FALSE NEIGHBOUR: 'it returns false'. Refute it at one input. -/
def signRawWrong : ChangeSpec := { name := "signRaw", fn := fun _ => fun
  | [d1, d2, d3] => { results := [.lit (.bool false)], args := [d1, d2, d3] }
  | _ => none }
def SignRawWrongFalsely : Prop := signRawRow.holds Try.pinned (OpenSpec.ofChange signRawWrong)

/-- 'abugidalaw04.SignKeys': WHATEVER THE INPUT: true; the input reads as it did. -/
def signKeysSpec : ChangeSpec := { name := "signKeys", fn := fun _ => fun
  | [d1, d2, d3] => { results := [.lit (.bool true)], args := [d1, d2, d3] }
  | _ => none }
def signKeysRow : OpenClaim := { program := "ytoolionhheiihaa", sum := "9d4d2d301c99c66f1f984d56e9c36ae5563f9fbde3ad1f594d95ff5d010a4827", func := "abugida/abugidalaw04.SignKeys", spec := "signKeys", inPlace := ["internal/abi.NoEscape"], unfollowed := true, recurses := true, apart := false }
def SignKeysSaid : Prop := signKeysRow.holds Try.pinned (OpenSpec.ofChange signKeysSpec)

/-- ITS FALSE NEIGHBOUR: 'it returns false'. Refute it at one input. -/
def signKeysWrong : ChangeSpec := { name := "signKeys", fn := fun _ => fun
  | [d1, d2, d3] => { results := [.lit (.bool false)], args := [d1, d2, d3] }
  | _ => none }
def SignKeysWrongFalsely : Prop := signKeysRow.holds Try.pinned (OpenSpec.ofChange signKeysWrong)

/- THE SECOND FORM. 'bulk': how many values and letters a reading holds, each counted each time it is reached (what is shared counts as often as it is met; a slice's spare places count too). A statement '..UptoSaid' is the law's where the arguments, and the package variables that the reading takes, are together of bulk at most 1048576: NARROWER than '..Said'. Prove '..Said' where nothing that the law and all that it calls make is longer than what came in: it says more and counts as full. Else prove '..UptoSaid'. A law counts once. -/
mutual
def uptoBulk {H : Type} : DataW H → Nat
  | .lit (.string bytes) => bytes.length + 1
  | .lit _ => 1
  | .nil => 1
  | .ptr d => uptoBulk d + 1
  | .slice elems spare => uptoBulkAll elems + uptoBulkAll spare + 1
  | .agg parts => uptoBulkAll parts + 1
  | .iface _ d => uptoBulk d + 1
  | .map entries => uptoBulkEntries entries + 1
  | .held _ => 1
def uptoBulkAll {H : Type} : List (DataW H) → Nat
  | [] => 0
  | d :: r => uptoBulk d + uptoBulkAll r
def uptoBulkEntries {H : Type} : List (Lit × DataW H) → Nat
  | [] => 0
  | x :: r => uptoBulkEntry x + uptoBulkEntries r
def uptoBulkEntry {H : Type} : Lit × DataW H → Nat
  | (.string bytes, d) => bytes.length + uptoBulk d + 1
  | (_, d) => uptoBulk d + 1
 end
def uptoSmall : (H : Type) → List (DataW H) → Bool := fun _ ds => decide (uptoBulkAll ds ≤ 1048576)
def OpenSpec.upto (s : _root_.Go.ChangeSpec) : _root_.Go.OpenSpec := { _root_.Go.OpenSpec.ofChange s with cond := some uptoSmall }

/-- 'abugidalaw04.SignPublics', WHERE WHAT IT READS IS OF BULK AT MOST 1048576: true; the input reads as it did. -/
def signPublicsUptoRow : OpenClaim := { program := "ytoolionhheiihaa", sum := "9d4d2d301c99c66f1f984d56e9c36ae5563f9fbde3ad1f594d95ff5d010a4827", func := "abugida/abugidalaw04.SignPublics", spec := "signPublics", inPlace := ["internal/abi.NoEscape"], unfollowed := true, recurses := true, apart := false, narrowed := true }
def SignPublicsUptoSaid : Prop := signPublicsUptoRow.holds Try.pinned (OpenSpec.upto signPublicsSpec)

/-- 'abugidalaw04.SignSigns', WHERE WHAT IT READS IS OF BULK AT MOST 1048576: true; the input reads as it did. -/
def signSignsUptoRow : OpenClaim := { program := "ytoolionhheiihaa", sum := "9d4d2d301c99c66f1f984d56e9c36ae5563f9fbde3ad1f594d95ff5d010a4827", func := "abugida/abugidalaw04.SignSigns", spec := "signSigns", inPlace := ["internal/abi.NoEscape"], unfollowed := true, recurses := true, apart := false, narrowed := true }
def SignSignsUptoSaid : Prop := signSignsUptoRow.holds Try.pinned (OpenSpec.upto signSignsSpec)

/-- 'abugidalaw04.SignRight', WHERE WHAT IT READS IS OF BULK AT MOST 1048576: true; the input reads as it did. -/
def signRightUptoRow : OpenClaim := { program := "ytoolionhheiihaa", sum := "9d4d2d301c99c66f1f984d56e9c36ae5563f9fbde3ad1f594d95ff5d010a4827", func := "abugida/abugidalaw04.SignRight", spec := "signRight", inPlace := ["internal/abi.NoEscape"], unfollowed := true, recurses := true, apart := false, narrowed := true }
def SignRightUptoSaid : Prop := signRightUptoRow.holds Try.pinned (OpenSpec.upto signRightSpec)

/-- 'abugidalaw04.SignForm', WHERE WHAT IT READS IS OF BULK AT MOST 1048576: true; the input reads as it did. -/
def signFormUptoRow : OpenClaim := { program := "ytoolionhheiihaa", sum := "9d4d2d301c99c66f1f984d56e9c36ae5563f9fbde3ad1f594d95ff5d010a4827", func := "abugida/abugidalaw04.SignForm", spec := "signForm", inPlace := ["internal/abi.NoEscape"], unfollowed := true, recurses := true, apart := false, narrowed := true }
def SignFormUptoSaid : Prop := signFormUptoRow.holds Try.pinned (OpenSpec.upto signFormSpec)

/-- 'abugidalaw04.SignChecks', WHERE WHAT IT READS IS OF BULK AT MOST 1048576: true; the input reads as it did. -/
def signChecksUptoRow : OpenClaim := { program := "ytoolionhheiihaa", sum := "9d4d2d301c99c66f1f984d56e9c36ae5563f9fbde3ad1f594d95ff5d010a4827", func := "abugida/abugidalaw04.SignChecks", spec := "signChecks", inPlace := ["internal/abi.NoEscape"], unfollowed := true, recurses := true, apart := false, narrowed := true }
def SignChecksUptoSaid : Prop := signChecksUptoRow.holds Try.pinned (OpenSpec.upto signChecksSpec)

/-- 'abugidalaw04.SignRaw', WHERE WHAT IT READS IS OF BULK AT MOST 1048576: true; the input reads as it did. -/
def signRawUptoRow : OpenClaim := { program := "ytoolionhheiihaa", sum := "9d4d2d301c99c66f1f984d56e9c36ae5563f9fbde3ad1f594d95ff5d010a4827", func := "abugida/abugidalaw04.SignRaw", spec := "signRaw", inPlace := ["internal/abi.NoEscape"], unfollowed := true, recurses := true, apart := false, narrowed := true }
def SignRawUptoSaid : Prop := signRawUptoRow.holds Try.pinned (OpenSpec.upto signRawSpec)

/-- 'abugidalaw04.SignKeys', WHERE WHAT IT READS IS OF BULK AT MOST 1048576: true; the input reads as it did. -/
def signKeysUptoRow : OpenClaim := { program := "ytoolionhheiihaa", sum := "9d4d2d301c99c66f1f984d56e9c36ae5563f9fbde3ad1f594d95ff5d010a4827", func := "abugida/abugidalaw04.SignKeys", spec := "signKeys", inPlace := ["internal/abi.NoEscape"], unfollowed := true, recurses := true, apart := false, narrowed := true }
def SignKeysUptoSaid : Prop := signKeysUptoRow.holds Try.pinned (OpenSpec.upto signKeysSpec)

end Rows
end Go.Proofs.Ytoolionhheiihaa
