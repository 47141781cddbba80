/- WireWrites: the bytes of strings and lists are those of the reference. No condition beside the row's own. -/
import Derived.Test.YtibdgpnedlpdbaaGwE
import Derived.Test.YtibdgpnedlpdbaaPbx5
set_option linter.unusedVariables false
set_option linter.unusedSimpArgs false
namespace Go.Proofs.Ytibdgpnedlpdbaa.Pure
open Go.RowKit Go.Proofs.Ytibdgpnedlpdbaa.Pb Go.Proofs.YtibdgpnedlpdbaaW.PrintWords Go.Proofs.YtibdgpnedlpdbaaW.PrintLast Go.Proofs.YtibdgpnedlpdbaaW.PrintMore Go.Proofs.Ytibdgpnedlpdbaa.Gw
theorem Writes_loop (x : List Int) (hx : x.length ≤ 1000) (hx2 : Ok64 x) (t : List ByteArray) (ht : t.length ≤ 1000) (hs : ∀ s ∈ t, s.size ≤ 9000) (d : Nat) : ∀ i : Nat, t.length - i = d → i ≤ t.length →
    Ev (fun k => abugidalaw02_WireWrites.l0 k x t true i) true := by
  induction d with
  | zero =>
    intro i hd hi
    refine Ev.step (fun k => abugidalaw02_WireWrites.l0.eq_2 ..) ?_
    refine evN (by omega) ?_
    refine evI rfl ?_
    refine Ev.bind (wire_Ints_ev x hx hx2) ?_
    refine Ev.bind (ref_Ints_ev x hx hx2) ?_
    refine evI rfl ?_
    refine Ev.bind (wire_Texts_ev t ht hs) ?_
    refine Ev.bind (ref_Texts_ev t ht hs) ?_
    rw [show ((TextsB t).toList == (TextsB t).toList) = true by simp]
    exact Ev.now _
  | succ d ih =>
    intro i hd hi
    obtain ⟨s, h⟩ := get_some (l := t) (i := i) (by omega)
    have hz := hs s (List.mem_of_getElem? h)
    refine Ev.step (fun k => abugidalaw02_WireWrites.l0.eq_2 ..) ?_
    refine evI (by omega) ?_
    refine evI (by omega) ?_
    rw [rd_some' h]
    refine Ev.bind (wire_Text_ev s hz) ?_
    refine Ev.bind (ref_Text_ev s hz) ?_
    refine evI rfl ?_
    rw [show wrap64 ((i : Int) + 1) = ((i + 1 : Nat) : Int) from w64 (by omega) (by omega)]
    exact ih (i + 1) (by omega) (by omega)
theorem WireWrites (l : List Int) (t : List ByteArray) (hl : l.length ≤ 9223372036854775807) (_ : l.length * 8 ≤ 140737488351232) (hw : ∀ n ∈ l, (Lit.int .i64 n).wf = true) (ht : t.length ≤ 9223372036854775807) (_ : ∀ s ∈ t, s.size ≤ 9223372036854775807) : ∃ k, abugidalaw02_WireWrites.f k l t = some true := by
  refine Ev.rounds (g := fun k => abugidalaw02_WireWrites.f k l t) ?_
  unfold abugidalaw02_WireWrites.f
  have hm : mn (l.length : Int) 50 = ((min l.length 50 : Nat) : Int) := by unfold mn; split <;> omega
  refine Ev.bind sanity_ev ?_
  rw [hm]
  refine evI (by omega) ?_
  refine evI (by omega) ?_
  refine Ev.bind (short_ev t ht) ?_
  refine Writes_loop _ (by simp; omega) ?_ _ (Nat.le_trans (short20_len t) (by omega)) (fun s h => Nat.le_trans (short20_mem t s h) (by omega)) _ 0 rfl (by omega)
  intro x hx
  exact i64_range (hw x (List.mem_of_mem_take hx))
end Go.Proofs.Ytibdgpnedlpdbaa.Pure
