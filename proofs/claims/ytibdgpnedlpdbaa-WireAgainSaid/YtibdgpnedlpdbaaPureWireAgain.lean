/- WireAgain: lists and strings are read as they were written, one after the other. No condition beside the row's own. -/
import Derived.Test.YtibdgpnedlpdbaaGwF
import Derived.Test.YtibdgpnedlpdbaaPbx7
set_option linter.unusedVariables false
set_option linter.unusedSimpArgs false
namespace Go.Proofs.Ytibdgpnedlpdbaa.Pure
open Go.RowKit Go.Proofs.Ytibdgpnedlpdbaa.Pb Go.Proofs.YtibdgpnedlpdbaaW.PrintWords Go.Proofs.YtibdgpnedlpdbaaW.PrintLast Go.Proofs.YtibdgpnedlpdbaaW.PrintMore Go.Proofs.Ytibdgpnedlpdbaa.Gw
def endS : ByteArray := ⟨#[101, 110, 100]⟩
theorem Again_l1 (x : List Int) (hx : x.length ≤ 1000) (d : Nat) : ∀ i : Nat, x.length - i = d → i ≤ x.length →
    Ev (fun k => abugidalaw02_WireAgain.l1 k x true x endS i ByteArray.empty false) true := by
  induction d with
  | zero =>
    intro i hd hi
    refine Ev.step (fun k => abugidalaw02_WireAgain.l1.eq_2 ..) ?_
    refine evN (by omega) ?_
    refine evI rfl ?_
    refine evI (by decide +kernel) ?_
    refine Ev.bind (a := (0, ByteArray.empty, false)) (Ev.now _) ?_
    refine evI rfl ?_
    exact Ev.bind (a := (false, ByteArray.empty, false)) (Ev.now _) (Ev.now _)
  | succ d ih =>
    intro i hd hi
    refine Ev.step (fun k => abugidalaw02_WireAgain.l1.eq_2 ..) ?_
    refine evI (by omega) ?_
    refine evI (by omega) ?_
    refine evI (by omega) ?_
    refine evI rfl ?_
    rw [show wrap64 ((i : Int) + 1) = ((i + 1 : Nat) : Int) from w64 (by omega) (by omega)]
    exact ih (i + 1) (by omega) (by omega)
theorem Again_l0 (x : List Int) (hx : x.length ≤ 1000) (t : List ByteArray) (ht : t.length ≤ 1000) (d : Nat) : ∀ i : Nat, t.length - i = d → i ≤ t.length →
    Ev (fun k => abugidalaw02_WireAgain.l0 k x t true t x endS i ByteArray.empty false) true := by
  induction d with
  | zero =>
    intro i hd hi
    refine Ev.step (fun k => abugidalaw02_WireAgain.l0.eq_2 ..) ?_
    refine evN (by omega) ?_
    exact Again_l1 x hx _ 0 rfl (by omega)
  | succ d ih =>
    intro i hd hi
    refine Ev.step (fun k => abugidalaw02_WireAgain.l0.eq_2 ..) ?_
    refine evI (by omega) ?_
    refine evI (by omega) ?_
    refine evI (by omega) ?_
    refine evI rfl ?_
    rw [show wrap64 ((i : Int) + 1) = ((i + 1 : Nat) : Int) from w64 (by omega) (by omega)]
    exact ih (i + 1) (by omega) (by omega)
theorem WireAgain (l : List Int) (t : List ByteArray) (hl : l.length ≤ 9223372036854775807) (_ : l.length * 8 ≤ 140737488351232) (hw : ∀ n ∈ l, (Lit.int .i64 n).wf = true) (ht : t.length ≤ 9223372036854775807) (_ : ∀ s ∈ t, s.size ≤ 9223372036854775807) : ∃ k, abugidalaw02_WireAgain.f k l t = some true := by
  refine Ev.rounds (g := fun k => abugidalaw02_WireAgain.f k l t) ?_
  unfold abugidalaw02_WireAgain.f
  have hm : mn (l.length : Int) 50 = ((min l.length 50 : Nat) : Int) := by unfold mn; split <;> omega
  have hx : (l.take ((min l.length 50 : Nat) : Int).toNat).length ≤ 50 := by simp; omega
  have ho : Ok64 (l.take ((min l.length 50 : Nat) : Int).toNat) := fun x hx => i64_range (hw x (List.mem_of_mem_take hx))
  have htl := short20_len t
  have hts : ∀ s ∈ short20 t, s.size ≤ 9000 := fun s h => Nat.le_trans (short20_mem t s h) (by omega)
  refine Ev.bind sanity_ev ?_
  rw [hm]
  refine evI (by omega) ?_
  refine evI (by omega) ?_
  refine Ev.bind (short_ev t ht) ?_
  generalize l.take ((min l.length 50 : Nat) : Int).toNat = x at *
  generalize short20 t = u at *
  have z1 := TextsB_size u (by omega) hts
  have z2 := IntsB_size x (by omega) ho
  have z3 : (TextB endS).size ≤ 13 := TextB_size endS (by decide)
  refine Ev.bind (wire_Texts_ev u (by omega) hts) ?_
  refine Ev.bind (wire_Ints_ev x (by omega) ho) ?_
  refine evI (by omega) ?_
  refine Ev.bind (wire_Text_ev endS (by decide)) ?_
  refine evI (by rw [ByteArray.size_append]; omega) ?_
  refine Ev.bind (a := ((TextsB u ++ IntsB x) ++ TextB endS, false)) (Ev.now _) ?_
  have r1 := Texts_ev u (IntsB x ++ TextB endS) (by omega) hts (by rw [ByteArray.size_append]; omega)
  rw [← ByteArray.append_assoc] at r1
  refine Ev.bind r1 ?_
  refine Ev.bind (Ints_ev x (TextB endS) (by omega) ho (by omega)) ?_
  have r3 := Text_ev endS ByteArray.empty (by decide) (by decide)
  rw [ByteArray.append_empty] at r3
  refine Ev.bind r3 ?_
  refine evI rfl ?_
  show Ev (fun k => abugidalaw02_WireAgain.j0 k x u true u x endS ((x.length : Int) != (x.length : Int)) ByteArray.empty false) true
  rw [show ((x.length : Int) != (x.length : Int)) = false by simp]
  refine Ev.step (fun k => abugidalaw02_WireAgain.j0.eq_2 ..) ?_
  refine evN (by decide) ?_
  exact Again_l0 x (by omega) u (by omega) _ 0 rfl (by omega)
end Go.Proofs.Ytibdgpnedlpdbaa.Pure
