/- DigestBytes: digests and nodes are those of the reference, for any two strings. No condition. -/
import Derived.Test.YtgepeapfninmeaaDgS
set_option linter.unusedVariables false
set_option linter.unusedSimpArgs false
namespace Go.Proofs.Ytgepeapfninmeaa.Pure
open Go.RowKit Go.Proofs.Ytgepeapfninmeaa.Pa Go.Proofs.YtgepeapfninmeaaW.PrintWords Go.Proofs.YtgepeapfninmeaaW.PrintLast Go.Proofs.Ytgepeapfninmeaa.Gv Go.Proofs.Ytgepeapfninmeaa.Dg
theorem DigestBytes : abugidalaw03_DigestBytes.Pure := by
  intro a b _ _
  obtain ⟨c, hc, hcs⟩ := cut_some a
  obtain ⟨d, hd, hds⟩ := cut_some b
  refine ⟨10 + 1000, ?_⟩
  unfold abugidalaw03_DigestBytes.f
  rw [sanity_more, hc, hd]
  simp only [Option.bind_some, if_true]
  rw [of_some c (by omega), ref_Of c (by omega) _ (by omega)]
  simp only [Option.bind_some, if_true]
  rw [of_some d (by omega), ref_Of d (by omega) _ (by omega)]
  simp only [Option.bind_some, if_true]
  rw [pair_some c d (by omega) (by omega), ref_Pair c d (by omega) (by omega) _ (by omega)]
  simp only [Option.bind_some, if_true]
  rw [pair_some d c (by omega) (by omega), ref_Pair d c (by omega) (by omega) _ (by omega)]
  simp
end Go.Proofs.Ytgepeapfninmeaa.Pure
