/- DigestProofs: each element's proof is accepted, and refused with another index or another height. No condition beside the row's own. -/
import Derived.Test.YtgepeapfninmeaaDgW
import Derived.Test.YtgepeapfninmeaaPax5
set_option linter.unusedVariables false
set_option linter.unusedSimpArgs false
namespace Go.Proofs.Ytgepeapfninmeaa.Pure
open Go.RowKit Go.Proofs.Ytgepeapfninmeaa.Pa Go.Proofs.YtgepeapfninmeaaW.PrintWords Go.Proofs.YtgepeapfninmeaaW.PrintLast Go.Proofs.YtgepeapfninmeaaW.PrintMore Go.Proofs.Ytgepeapfninmeaa.Gv Go.Proofs.Ytgepeapfninmeaa.Dg
theorem RootF_size (l : List ByteArray) : (RootF l).size = 8 := RootB_size _ _
theorem verify_right (l : List ByteArray) (hl : l.length ≤ 20) (i : Nat) (s : ByteArray) (h : l[i]? = some s) : VerifyF (RootF l) s i (ProofL l (hof l.length) i) = true := by
  have h5 := hof_small (n := l.length) (by omega)
  have hi : i < l.length := (List.getElem?_eq_some_iff.1 h).1
  have hu := (up_hof l.length).2.1
  have e : ((i : Int) / 2 ^ hof l.length) = ((i / 2 ^ hof l.length : Nat) : Int) := by simp
  unfold VerifyF
  rw [ProofL_len, if_pos ⟨RootF_size l, by omega, by omega, by rw [e, Nat.div_eq_of_lt (by omega)]; rfl⟩, vf_top l i s h]
  exact decide_eq_true rfl
theorem verify_beyond (a b : ByteArray) (l : List ByteArray) (i : Nat) (h : 2 ^ l.length ≤ i) : VerifyF a b i l = false := by
  have e : ((i : Int) / 2 ^ l.length) = ((i / 2 ^ l.length : Nat) : Int) := by simp
  unfold VerifyF
  rw [if_neg]
  rw [e]
  have : 0 < i / 2 ^ l.length := Nat.div_pos h (Nat.pow_pos (by omega))
  omega
theorem verify_neg (a b : ByteArray) (l : List ByteArray) (i : Int) (h : i < 0) : VerifyF a b i l = false := by
  unfold VerifyF; rw [if_neg (by omega)]
theorem verify_long (a b : ByteArray) (l : List ByteArray) (i : Int) (h : 20 < l.length) : VerifyF a b i l = false := by
  unfold VerifyF; rw [if_neg (by omega)]
theorem Proofs_l2 (l : List ByteArray) (hl : l.length ≤ 20) (hs : ∀ s ∈ l, s.size ≤ 9000) (x : ByteArray) (hx : x.size ≤ 9000) (h i : Nat) (s : ByteArray) (hg : l[i]? = some s)
    (next : Ev (fun k => abugidalaw03_DigestProofs.l1 k l x true (RootF l) h ((i + 1 : Nat) : Int)) true) (d : Nat) :
    ∀ q : List ByteArray, 21 - q.length = d → q.length ≤ 21 → (∀ s ∈ q, s.size ≤ 9000) → Ev (fun k => abugidalaw03_DigestProofs.l2 k l x true (RootF l) h i q) true := by
  have hi : i < l.length := (List.getElem?_eq_some_iff.1 hg).1
  have hsz := hs s (List.mem_of_getElem? hg)
  induction d with
  | zero =>
    intro q hd hq hqs
    refine Ev.step (fun k => abugidalaw03_DigestProofs.l2.eq_2 ..) ?_
    rw [rd_some hg, show wrap64 ((i : Int) + 1) = ((i + 1 : Nat) : Int) from w64 (by omega) (by omega)]
    refine evN (by omega) ?_
    refine evI (by omega) ?_
    refine evI (by omega) ?_
    refine Ev.bind (Ev.congr (fun _ => verify_some _ _ _ _ hsz (by omega) hqs) (Ev.now _)) ?_
    rw [verify_long _ _ _ _ (by omega)]
    refine evN (by decide) ?_
    exact next
  | succ d ih =>
    intro q hd hq hqs
    refine Ev.step (fun k => abugidalaw03_DigestProofs.l2.eq_2 ..) ?_
    refine evI (by omega) ?_
    refine evI (by omega) ?_
    refine ih (q ++ [x]) (by simp; omega) (by simp; omega) ?_
    intro t ht
    simp only [List.mem_append, List.mem_singleton] at ht
    rcases ht with ht | rfl
    · exact hqs t ht
    · exact hx
theorem Proofs_l1 (l : List ByteArray) (hl : l.length ≤ 20) (hs : ∀ s ∈ l, s.size ≤ 9000) (x : ByteArray) (hx : x.size ≤ 9000) (d : Nat) : ∀ i : Nat, l.length - i = d → i ≤ l.length →
    Ev (fun k => abugidalaw03_DigestProofs.l1 k l x true (RootF l) (hof l.length) (i : Int)) true := by
  have h5 := hof_small (n := l.length) (by omega)
  induction d with
  | zero =>
    intro i hd hi
    refine Ev.step (fun k => abugidalaw03_DigestProofs.l1.eq_2 ..) ?_
    refine evN (by omega) ?_
    refine evI rfl ?_
    rw [RootF_size]
    exact Ev.now _
  | succ d ih =>
    intro i hd hi
    obtain ⟨s, hg⟩ := get_some (l := l) (i := i) (by omega)
    have hsz := hs s (List.mem_of_getElem? hg)
    have hq : 2 ^ hof l.length ≤ 2 ^ 5 := Nat.pow_le_pow_right (by omega) (by omega)
    have hpm := ProofL_mem l hs i
    have hpl := ProofL_len l (hof l.length) i
    refine Ev.step (fun k => abugidalaw03_DigestProofs.l1.eq_2 ..) ?_
    refine evI (by omega) ?_
    refine Ev.bind (Ev.congr (fun _ => proof_some l (by omega) hs i) (Ev.now _)) ?_
    rw [ProofF_in l i (by omega), hpl, rd_some hg, shl1 _ (by omega), show wrap64 ((i : Int) + ((2 ^ hof l.length : Nat) : Int)) = ((i + 2 ^ hof l.length : Nat) : Int) from by
      generalize 2 ^ hof l.length = P at *; exact (w64 (by omega) (by omega)).trans (by omega), show wrap64 (-1 - (i : Int)) = -1 - (i : Int) from w64 (by omega) (by omega)]
    refine evI rfl ?_
    refine evI (by omega) ?_
    refine Ev.bind (Ev.congr (fun _ => verify_some _ _ _ _ hsz (by omega) hpm) (Ev.now _)) ?_
    rw [verify_right l hl i s hg]
    refine evI rfl ?_
    refine evI (by omega) ?_
    refine Ev.bind (Ev.congr (fun _ => verify_some _ _ _ _ hsz (by generalize 2 ^ hof l.length = P at *; omega) hpm) (Ev.now _)) ?_
    rw [verify_beyond _ _ _ _ (by rw [hpl]; omega)]
    refine evN (by decide) ?_
    refine Ev.bind (Ev.congr (fun _ => verify_some _ _ _ _ hsz (by omega) hpm) (Ev.now _)) ?_
    rw [verify_neg _ _ _ _ (by omega)]
    refine Ev.step (fun k => abugidalaw03_DigestProofs.j2.eq_2 ..) ?_
    refine evN (by decide) ?_
    refine Ev.bind (Ev.now _) ?_
    refine evI (by rw [hpl]; simp; omega) ?_
    exact Proofs_l2 l hl hs x hx _ i s hg (ih (i + 1) (by omega) (by omega)) _ _ rfl (by rw [List.nil_append, hpl]; omega) hpm
theorem Proofs_l0 (l : List ByteArray) (hl : l.length ≤ 20) (hs : ∀ s ∈ l, s.size ≤ 9000) (x : ByteArray) (hx : x.size ≤ 9000) (d : Nat) : ∀ j : Nat, hof l.length - j = d → j ≤ hof l.length →
    Ev (fun k => abugidalaw03_DigestProofs.l0 k l x true (RootF l) (j : Int)) true := by
  have h5 := hof_small (n := l.length) (by omega)
  induction d with
  | zero =>
    intro j hd hj
    obtain rfl : j = hof l.length := by omega
    have hu := (up_hof l.length).2.1
    refine Ev.step (fun k => abugidalaw03_DigestProofs.l0.eq_2 ..) ?_
    rw [shl1 _ (by omega)]
    refine evI (by omega) ?_
    refine evN (by omega) ?_
    exact Proofs_l1 l hl hs x hx _ 0 rfl (by omega)
  | succ d ih =>
    intro j hd hj
    have hlt := (lt_hof (n := l.length) hj).2 (by omega)
    refine Ev.step (fun k => abugidalaw03_DigestProofs.l0.eq_2 ..) ?_
    rw [shl1 _ (by omega), show wrap64 ((j : Int) + 1) = ((j + 1 : Nat) : Int) from w64 (by omega) (by omega)]
    refine evI (by omega) ?_
    refine evI (by omega) ?_
    exact ih (j + 1) (by omega) (by omega)
theorem DigestProofs (l : List ByteArray) (x : ByteArray) (hl : l.length ≤ 9223372036854775807) (_ : ∀ s ∈ l, s.size ≤ 9223372036854775807) (hx : x.size ≤ 140737488351232) : ∃ k, abugidalaw03_DigestProofs.f k l x = some true := by
  refine Ev.rounds (g := fun k => abugidalaw03_DigestProofs.f k l x) ?_
  unfold abugidalaw03_DigestProofs.f
  have hs : ∀ s ∈ few20 l, s.size ≤ 9000 := fun s h => Nat.le_trans (few20_mem l s h) (by omega)
  have hl' := few20_len l
  have hm : mn (x.size : Int) 40 = ((min x.size 40 : Nat) : Int) := by unfold mn; split <;> omega
  refine Ev.bind sanity_ev ?_
  refine Ev.bind (few_ev l hl) ?_
  rw [hm]
  refine evI (by omega) ?_
  refine evI (by omega) ?_
  refine Ev.bind (Ev.congr (fun _ => root_some _ (by omega) hs) (Ev.now _)) ?_
  exact Proofs_l0 (few20 l) hl' hs _ (by simp [ByteArray.size_extract]; omega) _ 0 rfl (by omega)
end Go.Proofs.Ytgepeapfninmeaa.Pure
