/- DigestRoots: roots and proofs are those of the reference. No condition beside the row's own. -/
import Derived.Test.YtgepeapfninmeaaDgU
set_option linter.unusedVariables false
set_option linter.unusedSimpArgs false
namespace Go.Proofs.Ytgepeapfninmeaa.Pure
open Go.RowKit Go.Proofs.Ytgepeapfninmeaa.Pa Go.Proofs.YtgepeapfninmeaaW.PrintWords Go.Proofs.YtgepeapfninmeaaW.PrintLast Go.Proofs.Ytgepeapfninmeaa.Gv Go.Proofs.Ytgepeapfninmeaa.Dg
theorem Roots_loop (l : List ByteArray) (hl : l.length ≤ 20) (hs : ∀ s ∈ l, s.size ≤ 9000) (i : Int) (d : Nat) : ∀ x : Int, (l.length : Int) + 1 - x = d → -1 ≤ x →
    Ev (fun k => abugidalaw03_DigestRoots.l0 k l i true x) true := by
  have hP : ∀ j, (ProofF l j).length ≤ 9223372036854775807 := fun j => Nat.le_trans (ProofF_len l (by omega) j) (by omega)
  induction d with
  | zero =>
    intro x hd hx
    refine Ev.step (fun k => abugidalaw03_DigestRoots.l0.eq_2 ..) ?_
    refine evN (by omega) ?_
    refine evI rfl ?_
    refine Ev.bind (Ev.congr (fun _ => root_some l (by omega) hs) (Ev.now _)) ?_
    refine Ev.bind (Root_ev l (by omega) hs) ?_
    refine evI rfl ?_
    refine Ev.bind (Ev.congr (fun _ => proof_some l (by omega) hs i) (Ev.now _)) ?_
    refine Ev.bind (Proof_ev l (by omega) hs i) ?_
    exact Ev.bind (Same_ev _ (hP i)) (Ev.now _)
  | succ d ih =>
    intro x hd hx
    refine Ev.step (fun k => abugidalaw03_DigestRoots.l0.eq_2 ..) ?_
    refine evI (by omega) ?_
    refine Ev.bind (Ev.congr (fun _ => proof_some l (by omega) hs x) (Ev.now _)) ?_
    refine Ev.bind (Proof_ev l (by omega) hs x) ?_
    refine Ev.bind (Same_ev _ (hP x)) ?_
    refine evI rfl ?_
    rw [show wrap64 (x + 1) = x + 1 from w64 (by omega) (by omega)]
    exact ih (x + 1) (by omega) (by omega)
theorem DigestRoots (l : List ByteArray) (i : Int) (hl : l.length ≤ 9223372036854775807) (_ : ∀ s ∈ l, s.size ≤ 9223372036854775807) (_ : (Lit.int .i64 i).wf = true) : ∃ k, abugidalaw03_DigestRoots.f k l i = some true := by
  refine Ev.rounds (g := fun k => abugidalaw03_DigestRoots.f k l i) ?_
  unfold abugidalaw03_DigestRoots.f
  refine Ev.bind sanity_ev ?_
  refine Ev.bind (few_ev l hl) ?_
  exact Roots_loop (few20 l) (few20_len l) (fun s h => Nat.le_trans (few20_mem l s h) (by omega)) i ((few20 l).length + 2) (-1) (by omega) (by omega)
end Go.Proofs.Ytgepeapfninmeaa.Pure
