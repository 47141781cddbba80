/- A law's argument that is a slice of strings: how it reads. -/
import Derived.Test.YtjjpiedcdcdejaaWMore
import Derived.SliceStrings
import Derived.ProofKit
set_option linter.unusedVariables false
set_option linter.unusedSimpArgs false
namespace Go.Proofs.Ytjjpiedcdcdejaa.RowS
open Go.ChangeShapes Go.WideShapes Go.ChangeAt Go.RowKit Go.Proofs.YtjjpiedcdcdejaaW.PrintWords
end Go.Proofs.Ytjjpiedcdcdejaa.RowS
