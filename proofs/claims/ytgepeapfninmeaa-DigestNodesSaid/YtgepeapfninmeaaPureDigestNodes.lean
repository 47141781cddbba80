/- DigestNodes: a node is not accepted as a leaf by the rest of a proof. No condition beside the row's own. -/
import Derived.Test.YtgepeapfninmeaaDgW
import Derived.Test.YtgepeapfninmeaaPax7
set_option linter.unusedVariables false
set_option linter.unusedSimpArgs false
namespace Go.Proofs.Ytgepeapfninmeaa.Pure
open Go.RowKit Go.Proofs.Ytgepeapfninmeaa.Pa Go.Proofs.YtgepeapfninmeaaW.PrintWords Go.Proofs.YtgepeapfninmeaaW.PrintLast Go.Proofs.Ytgepeapfninmeaa.Gv Go.Proofs.Ytgepeapfninmeaa.Dg
theorem node_refused (l : List ByteArray) (hl : l.length ≤ 20) (i : Nat) (s : ByteArray) (h : l[i]? = some s) (n : Nat) (hn : n < hof l.length) (j : Int) :
    VerifyF (RootF l) (vf s i ((ProofL l (hof l.length) i).take (n + 1))).1 (vf s i ((ProofL l (hof l.length) i).take (n + 1))).2 ((ProofL l (hof l.length) i).drop (n + 1)) = false := by
  have h5 := hof_small (n := l.length) (by omega)
  unfold VerifyF
  split
  · rw [← vf_append, List.take_append_drop, vf_top l i s h, List.length_drop, ProofL_len]
    exact decide_eq_false (RootB_ne _ _ _ (by omega) (by omega) (by omega))
  · rfl
theorem Nodes_l1 (l : List ByteArray) (hl : l.length ≤ 20) (hs : ∀ s ∈ l, s.size ≤ 9000) (i : Nat) (s : ByteArray) (h : l[i]? = some s)
    (next : Ev (fun k => abugidalaw03_DigestNodes.l0 k l true (RootF l) ((i + 1 : Nat) : Int)) true) (d : Nat) : ∀ n : Nat, hof l.length - n = d → n ≤ hof l.length →
    (vf s i ((ProofL l (hof l.length) i).take n)).1.size ≤ 9000 →
    Ev (fun k => abugidalaw03_DigestNodes.l1 k l true (RootF l) i (ProofL l (hof l.length) i) (vf s i ((ProofL l (hof l.length) i).take n)).1 ((i / 2 ^ n : Nat) : Int) (n : Int)) true := by
  have h5 := hof_small (n := l.length) (by omega)
  have hi : i < l.length := (List.getElem?_eq_some_iff.1 h).1
  induction d with
  | zero =>
    intro n hd hn hz
    obtain rfl : n = hof l.length := by omega
    refine Ev.step (fun k => abugidalaw03_DigestNodes.l1.eq_2 ..) ?_
    refine evN (by rw [ProofL_len]; omega) ?_
    rw [show wrap64 ((i : Int) + 1) = ((i + 1 : Nat) : Int) from w64 (by omega) (by omega)]
    exact next
  | succ d ih =>
    intro n hd hn hz
    have hp := ProofL_take l i (n := n) (by omega)
    have hpm := ProofL_mem l hs i _ (List.mem_of_getElem? hp)
    have hv := vf_level l i s h n (by omega)
    have hv1 := vf_level l i s h (n + 1) (by omega)
    have href := node_refused l hl i s h n (by omega) 0
    have hsn := vf_snoc s i (ProofL l (hof l.length) i) n _ hp
    have ih' := ih (n + 1) (by omega) (by omega)
    have hd2 : i / 2 ^ n / 2 = i / 2 ^ (n + 1) := by rw [Nat.div_div_eq_div_mul, Nat.pow_succ]
    have hle : i / 2 ^ n ≤ i := Nat.div_le_self _ _
    have hv2 : (vf s i ((ProofL l (hof l.length) i).take (n + 1))).2 = ((i / 2 ^ (n + 1) : Nat) : Int) := by rw [hv1]
    have hvn2 : (vf s i ((ProofL l (hof l.length) i).take n)).2 = ((i / 2 ^ n : Nat) : Int) := by rw [hv]
    clear hv hv1
    rw [hv2] at href
    rw [hsn] at href ih'
    have hdm : ∀ t ∈ (ProofL l (hof l.length) i).drop (n + 1), t.size ≤ 9000 := fun t ht => ProofL_mem l hs i t (List.mem_of_mem_drop ht)
    have hdl := ProofL_len l (hof l.length) i
    generalize vf s i ((ProofL l (hof l.length) i).take n) = st at *
    obtain ⟨x, y⟩ := st
    simp only at hz hvn2
    subst hvn2
    refine Ev.step (fun k => abugidalaw03_DigestNodes.l1.eq_2 ..) ?_
    rw [tdiv2, tmod2, hd2, rd_some hp, show wrap64 ((n : Int) + 1) = ((n + 1 : Nat) : Int) from w64 (by omega) (by omega), w64n _ (by rw [← hd2]; omega), hdl]
    generalize (lev (fill l (2 ^ hof l.length)) n).getD (nb (i / 2 ^ n)) ⟨#[]⟩ = p at *
    refine evI (by omega) ?_
    by_cases he : ((i / 2 ^ n : Nat) : Int) % 2 = 0
    · simp only [vstep, if_pos he, PairB_len] at ih' href
      refine evI (by omega) ?_
      refine evI (by omega) ?_
      refine Ev.bind (Ev.congr (fun _ => pair_some x p (by omega) (by omega)) (Ev.now _)) ?_
      refine evI (by omega) ?_
      refine evI (by omega) ?_
      refine Ev.bind (Ev.congr (fun _ => verify_some _ _ _ _ (by rw [PairB_len]; omega) (by rw [← hd2]; omega) hdm) (Ev.now _)) ?_
      rw [show ((((n + 1 : Nat) : Int)).toNat) = n + 1 by omega, href]
      refine evN (by decide) ?_
      exact ih' (by omega)
    · simp only [vstep, if_neg he, PairB_len] at ih' href
      refine evN (by omega) ?_
      refine evI (by omega) ?_
      refine Ev.bind (Ev.congr (fun _ => pair_some p x (by omega) (by omega)) (Ev.now _)) ?_
      refine evI (by omega) ?_
      refine evI (by omega) ?_
      refine Ev.bind (Ev.congr (fun _ => verify_some _ _ _ _ (by rw [PairB_len]; omega) (by rw [← hd2]; omega) hdm) (Ev.now _)) ?_
      rw [show ((((n + 1 : Nat) : Int)).toNat) = n + 1 by omega, href]
      refine evN (by decide) ?_
      exact ih' (by omega)
theorem Nodes_l0 (l : List ByteArray) (hl : l.length ≤ 20) (hs : ∀ s ∈ l, s.size ≤ 9000) (d : Nat) : ∀ i : Nat, l.length - i = d → i ≤ l.length → Ev (fun k => abugidalaw03_DigestNodes.l0 k l true (RootF l) (i : Int)) true := by
  induction d with
  | zero =>
    intro i hd hi
    refine Ev.step (fun k => abugidalaw03_DigestNodes.l0.eq_2 ..) ?_
    refine evN (by omega) ?_
    exact Ev.now _
  | succ d ih =>
    intro i hd hi
    obtain ⟨s, h⟩ := get_some (l := l) (i := i) (by omega)
    have hsz := hs s (List.mem_of_getElem? h)
    refine Ev.step (fun k => abugidalaw03_DigestNodes.l0.eq_2 ..) ?_
    refine evI (by omega) ?_
    refine Ev.bind (Ev.congr (fun _ => proof_some l (by omega) hs i) (Ev.now _)) ?_
    refine evI (by omega) ?_
    rw [rd_some h, ProofF_in l i (by omega)]
    have := Nodes_l1 l hl hs i s h (ih (i + 1) (by omega) (by omega)) _ 0 rfl (by omega) (by simpa [vf] using hsz)
    simpa [vf] using this
theorem DigestNodes (l : List ByteArray) (hl : l.length ≤ 9223372036854775807) (_ : ∀ s ∈ l, s.size ≤ 9223372036854775807) : ∃ k, abugidalaw03_DigestNodes.f k l = some true := by
  refine Ev.rounds (g := fun k => abugidalaw03_DigestNodes.f k l) ?_
  unfold abugidalaw03_DigestNodes.f
  have hs : ∀ s ∈ few20 l, s.size ≤ 9000 := fun s h => Nat.le_trans (few20_mem l s h) (by omega)
  have hl' := few20_len l
  refine Ev.bind sanity_ev ?_
  refine Ev.bind (few_ev l hl) ?_
  refine Ev.bind (Ev.congr (fun _ => root_some _ (by omega) hs) (Ev.now _)) ?_
  exact Nodes_l0 (few20 l) hl' hs _ 0 rfl (by omega)
end Go.Proofs.Ytgepeapfninmeaa.Pure
