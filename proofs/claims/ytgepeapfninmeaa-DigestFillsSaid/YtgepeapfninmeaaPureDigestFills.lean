/- DigestFills: empty strings behind a list do not change its root, up to the number to which it is filled. No condition beside the row's own. -/
import Derived.Test.YtgepeapfninmeaaDgW
import Derived.Test.YtgepeapfninmeaaPax7
set_option linter.unusedVariables false
set_option linter.unusedSimpArgs false
namespace Go.Proofs.Ytgepeapfninmeaa.Pure
open Go.RowKit Go.Proofs.Ytgepeapfninmeaa.Pa Go.Proofs.YtgepeapfninmeaaW.PrintWords Go.Proofs.YtgepeapfninmeaaW.PrintLast Go.Proofs.Ytgepeapfninmeaa.Gv Go.Proofs.Ytgepeapfninmeaa.Dg
theorem Fills_l1 (l : List ByteArray) (hl : l.length ≤ 20) (hs : ∀ s ∈ l, s.size ≤ 9000) (d : Nat) : ∀ m : Nat, 2 ^ hof l.length - l.length - m = d → l.length + m ≤ 2 ^ hof l.length →
    Ev (fun k => abugidalaw03_DigestFills.l1 k l true ((2 ^ hof l.length : Nat) : Int) (l ++ List.replicate m ⟨#[]⟩)) true := by
  have h5 := hof_small (n := l.length) (by omega)
  have hq : 2 ^ hof l.length ≤ 2 ^ 5 := Nat.pow_le_pow_right (by omega) (by omega)
  induction d with
  | zero =>
    intro m hd hm
    refine Ev.step (fun k => abugidalaw03_DigestFills.l1.eq_2 ..) ?_
    refine evN (by rw [List.length_append, List.length_replicate]; omega) ?_
    exact Ev.now _
  | succ d ih =>
    intro m hd hm
    have e : (l ++ List.replicate m (⟨#[]⟩ : ByteArray)) ++ [⟨#[]⟩] = l ++ List.replicate (m + 1) ⟨#[]⟩ := by rw [List.replicate_succ', ← List.append_assoc]
    refine Ev.step (fun k => abugidalaw03_DigestFills.l1.eq_2 ..) ?_
    refine evI (by rw [List.length_append, List.length_replicate]; omega) ?_
    refine evI (by rw [List.length_append, List.length_replicate]; omega) ?_
    rw [e]
    refine Ev.bind (Ev.now _) ?_
    refine Ev.bind (Ev.congr (fun _ => root_some _ (by rw [List.length_append, List.length_replicate]; omega) ?_) (Ev.now _)) ?_
    · intro s hm'
      simp only [List.mem_append, List.mem_replicate] at hm'
      rcases hm' with hm' | ⟨_, rfl⟩
      · exact hs s hm'
      · decide
    refine Ev.bind (Ev.congr (fun _ => root_some l (by omega) hs) (Ev.now _)) ?_
    refine evI (by rw [fill_more l (m + 1) (by omega)]) ?_
    exact ih (m + 1) (by omega) (by omega)
theorem Fills_l0 (l : List ByteArray) (hl : l.length ≤ 20) (hs : ∀ s ∈ l, s.size ≤ 9000) (d : Nat) : ∀ j : Nat, hof l.length - j = d → j ≤ hof l.length →
    Ev (fun k => abugidalaw03_DigestFills.l0 k l true ((2 ^ j : Nat) : Int)) true := by
  have h5 := hof_small (n := l.length) (by omega)
  induction d with
  | zero =>
    intro j hd hj
    obtain rfl : j = hof l.length := by omega
    have hu := (up_hof l.length).2.1
    have hq : 2 ^ hof l.length ≤ 2 ^ 5 := Nat.pow_le_pow_right (by omega) (by omega)
    refine Ev.step (fun k => abugidalaw03_DigestFills.l0.eq_2 ..) ?_
    refine evN (by omega) ?_
    refine Ev.bind (Ev.now _) ?_
    refine evI (by simp; omega) ?_
    have := Fills_l1 l hl hs _ 0 rfl (by omega)
    simpa using this
  | succ d ih =>
    intro j hd hj
    have hlt := (lt_hof (n := l.length) hj).2 (by omega)
    refine Ev.step (fun k => abugidalaw03_DigestFills.l0.eq_2 ..) ?_
    refine evI (by omega) ?_
    rw [dbl (by omega)]
    exact ih (j + 1) (by omega) (by omega)
theorem DigestFills (l : List ByteArray) (hl : l.length ≤ 9223372036854775807) (_ : ∀ s ∈ l, s.size ≤ 9223372036854775807) : ∃ k, abugidalaw03_DigestFills.f k l = some true := by
  refine Ev.rounds (g := fun k => abugidalaw03_DigestFills.f k l) ?_
  unfold abugidalaw03_DigestFills.f
  refine Ev.bind sanity_ev ?_
  refine Ev.bind (few_ev l hl) ?_
  exact Fills_l0 (few20 l) (few20_len l) (fun s h => Nat.le_trans (few20_mem l s h) (by omega)) _ 0 rfl (by omega)
end Go.Proofs.Ytgepeapfninmeaa.Pure
