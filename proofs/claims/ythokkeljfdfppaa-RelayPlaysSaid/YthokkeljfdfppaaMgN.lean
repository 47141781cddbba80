/- Several texts of this claim, one behind the other: RnB, RnC. -/
import Derived.Test.YthokkeljfdfppaaRnA
import Derived.Test.YthokkeljfdfppaaMgX
import Derived.Test.YthokkeljfdfppaaRmD
/- patches: rows of what numbers make. -/
set_option linter.unusedVariables false
set_option linter.unusedSimpArgs false
namespace Go.Proofs.Ythokkeljfdfppaa.Rl
open Go.RowKit Go.Proofs.YthokkeljfdfppaaW.PrintWords Go.Proofs.YthokkeljfdfppaaW.PrintLast Go.Proofs.YthokkeljfdfppaaW.PrintMore Go.Proofs.Ythokkeljfdfppaa.Pb Go.Proofs.Ythokkeljfdfppaa.Gw Go.Proofs.Ythokkeljfdfppaa.Pure
theorem made_enc {p : S55} (h : MadeP p) : PK p ∧ (EncB p).size ≤ 300 ∧ 1 ≤ (EncB p).size := by
 obtain ⟨f0, f1, ⟨k1, k2, k3⟩, ⟨b1, b2, b3⟩, f4, f5, f6⟩ := p
 have e0 : f0.size = 1 := by rcases h.f0 with e | e <;> (have e : f0 = _ := e; rw [e]; rfl)
 have e1 : f1 = 1 ∨ f1 = 2 := h.f1
 have e2 : 1 ≤ k1 ∧ k1 ≤ 3 := h.k1
 have e3 : 0 ≤ k2 ∧ k2 ≤ 2 := h.k2
 have e4 : k3 = 0 ∨ (k1 = 3 ∧ k3 = 1) := h.k3
 have e5 : (0 ≤ b1 ∧ b1 ≤ 2) ∧ (0 ≤ b2 ∧ b2 ≤ 1) ∧ b3 = 0 := by
  rcases h.b with e | e
  · have e : (⟨b1, b2, b3⟩ : S52) = _ := e
    injection e with a1 a2 a3
    omega
  · have e : (⟨b1, b2, b3⟩ : S52) = _ := e
    injection e with a1 a2 a3
    omega
 have e6 : f4.size ≤ 31 := h.f4
 have e7 : 0 ≤ f5 ∧ f5 ≤ 7 := h.f5
 have e8 : f6.length ≤ 3 := h.f6
 have e9 : ∀ t ∈ f6, t.size = 8 := h.el
 have h1 := TextB_size f0 (by omega)
 have h2 := TextB_size f4 (by omega)
 have i1 := IntB_small f1 (by omega) (by omega)
 have i5 := IntB_small f5 (by omega) (by omega)
 have h3 := IntsB_size (ks6 ⟨f0, f1, ⟨k1, k2, k3⟩, ⟨b1, b2, b3⟩, f4, f5, f6⟩) (show (6 : Nat) ≤ 1000 by decide) (fun x hx => by
  simp only [ks6, List.mem_cons, List.not_mem_nil, or_false] at hx
  rcases hx with rfl | rfl | rfl | rfl | rfl | rfl <;> omega)
 have h6 : (ks6 ⟨f0, f1, ⟨k1, k2, k3⟩, ⟨b1, b2, b3⟩, f4, f5, f6⟩).length = 6 := rfl
 have i6 := IntB_small (f6.length : Int) (by omega) (by omega)
 have h4 : (TextsB f6).size ≤ 64 := by
  have hj := join_size TextB 18 f6 (IntB (f6.length : Int)) (fun t ht => by have a1 := TextB_size t (by rw [e9 t ht]; omega); rw [e9 t ht] at a1; exact a1)
  show (join TextB f6 (IntB (f6.length : Int))).size ≤ 64
  omega
 have p1 := IntB_pos f1
 have hz : (EncB ⟨f0, f1, ⟨k1, k2, k3⟩, ⟨b1, b2, b3⟩, f4, f5, f6⟩).size ≤ 300 ∧ 1 ≤ (EncB ⟨f0, f1, ⟨k1, k2, k3⟩, ⟨b1, b2, b3⟩, f4, f5, f6⟩).size := by
  unfold EncB
  simp only [ByteArray.size_append]
  omega
 have r : ∀ x : Int, -1000 ≤ x → x ≤ 1000 → Pure.I64 x := fun x a b => ⟨by omega, by omega⟩
 exact ⟨⟨⟨by show f0.size ≤ 9000; omega, r _ (by show -1000 ≤ f1; omega) (by show f1 ≤ 1000; omega), ⟨r _ (by show -1000 ≤ k1; omega) (by show k1 ≤ 1000; omega), r _ (by show -1000 ≤ k2; omega) (by show k2 ≤ 1000; omega), r _ (by show -1000 ≤ k3; omega) (by show k3 ≤ 1000; omega)⟩, ⟨r _ (by show -1000 ≤ b1; omega) (by show b1 ≤ 1000; omega), r _ (by show -1000 ≤ b2; omega) (by show b2 ≤ 1000; omega), r _ (by show -1000 ≤ b3; omega) (by show b3 ≤ 1000; omega)⟩, by show f4.size ≤ 9000; omega, r _ (by show -1000 ≤ f5; omega) (by show f5 ≤ 1000; omega), by show f6.length ≤ 9000; omega, fun t ht => by rw [e9 t ht]; omega, by omega⟩, ⟨by show f0.size ≤ 9223372036854775807; omega, r _ (by show -1000 ≤ f1; omega) (by show f1 ≤ 1000; omega), r _ (by show -1000 ≤ k1; omega) (by show k1 ≤ 1000; omega), r _ (by show -1000 ≤ k2; omega) (by show k2 ≤ 1000; omega), r _ (by show -1000 ≤ k3; omega) (by show k3 ≤ 1000; omega), r _ (by show -1000 ≤ b1; omega) (by show b1 ≤ 1000; omega), r _ (by show -1000 ≤ b2; omega) (by show b2 ≤ 1000; omega), r _ (by show -1000 ≤ b3; omega) (by show b3 ≤ 1000; omega)⟩, by show f6.length ≤ 1000; omega⟩, hz⟩
theorem made_pk {p : S55} (h : MadeP p) : PK p := (made_enc h).1
theorem R_F {α : Type} {d : Kd α} {e base c : Nat} {ok : Nat → Prop} {w : World} {A : Option Addr} {l : List α} (h : d.R e w base ok (.slice A l.length c) l) : Kd.F d w ok A l.length l := fun W' hW => (Kd.R_reads' (Kd.R_step h (fun k hk hlt => hW k hk hlt))).2.2
theorem inf3a {cs : Array Value} (h : cs.size = 3) : (Try.prog.info? 64).map (·.size) = some cs.size := by rw [h]; kernel_rfl
section
variable {w w1 : World} {Q : Nat → Prop} {B : Option Addr} {d : Nat} {P : List S55}
end
end Go.Proofs.Ythokkeljfdfppaa.Rl

