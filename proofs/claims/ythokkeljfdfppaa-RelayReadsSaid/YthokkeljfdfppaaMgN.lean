/- Several texts of this claim, one behind the other: RnB, RnC. -/
import Derived.Test.YthokkeljfdfppaaRnA
import Derived.Test.YthokkeljfdfppaaMgX
import Derived.Test.YthokkeljfdfppaaRmD
/- patches: rows of what numbers make. -/
set_option linter.unusedVariables false
set_option linter.unusedSimpArgs false
namespace Go.Proofs.Ythokkeljfdfppaa.Rl
open Go.RowKit Go.Proofs.YthokkeljfdfppaaW.PrintWords Go.Proofs.YthokkeljfdfppaaW.PrintLast Go.Proofs.YthokkeljfdfppaaW.PrintMore Go.Proofs.Ythokkeljfdfppaa.Pb Go.Proofs.Ythokkeljfdfppaa.Gw Go.Proofs.Ythokkeljfdfppaa.Pure
theorem made_enc {p : S55} (h : MadeP p) : PK p ∧ (EncB p).size ≤ 300 ∧ 1 ≤ (EncB p).size := by
 obtain ⟨f0, f1, ⟨k1, k2, k3⟩, ⟨b1, b2, b3⟩, f4, f5, f6⟩ := p
 have e0 : f0.size = 1 := by rcases h.f0 with e | e <;> (have e : f0 = _ := e; rw [e]; rfl)
 have e1 : f1 = 1 ∨ f1 = 2 := h.f1
 have e2 : 1 ≤ k1 ∧ k1 ≤ 3 := h.k1
 have e3 : 0 ≤ k2 ∧ k2 ≤ 2 := h.k2
 have e4 : k3 = 0 ∨ (k1 = 3 ∧ k3 = 1) := h.k3
 have e5 : (0 ≤ b1 ∧ b1 ≤ 2) ∧ (0 ≤ b2 ∧ b2 ≤ 1) ∧ b3 = 0 := by
  rcases h.b with e | e
  · have e : (⟨b1, b2, b3⟩ : S52) = _ := e
    injection e with a1 a2 a3
    omega
  · have e : (⟨b1, b2, b3⟩ : S52) = _ := e
    injection e with a1 a2 a3
    omega
 have e6 : f4.size ≤ 31 := h.f4
 have e7 : 0 ≤ f5 ∧ f5 ≤ 7 := h.f5
 have e8 : f6.length ≤ 3 := h.f6
 have e9 : ∀ t ∈ f6, t.size = 8 := h.el
 have h1 := TextB_size f0 (by omega)
 have h2 := TextB_size f4 (by omega)
 have i1 := IntB_small f1 (by omega) (by omega)
 have i5 := IntB_small f5 (by omega) (by omega)
 have h3 := IntsB_size (ks6 ⟨f0, f1, ⟨k1, k2, k3⟩, ⟨b1, b2, b3⟩, f4, f5, f6⟩) (show (6 : Nat) ≤ 1000 by decide) (fun x hx => by
  simp only [ks6, List.mem_cons, List.not_mem_nil, or_false] at hx
  rcases hx with rfl | rfl | rfl | rfl | rfl | rfl <;> omega)
 have h6 : (ks6 ⟨f0, f1, ⟨k1, k2, k3⟩, ⟨b1, b2, b3⟩, f4, f5, f6⟩).length = 6 := rfl
 have i6 := IntB_small (f6.length : Int) (by omega) (by omega)
 have h4 : (TextsB f6).size ≤ 64 := by
  have hj := join_size TextB 18 f6 (IntB (f6.length : Int)) (fun t ht => by have a1 := TextB_size t (by rw [e9 t ht]; omega); rw [e9 t ht] at a1; exact a1)
  show (join TextB f6 (IntB (f6.length : Int))).size ≤ 64
  omega
 have p1 := IntB_pos f1
 have hz : (EncB ⟨f0, f1, ⟨k1, k2, k3⟩, ⟨b1, b2, b3⟩, f4, f5, f6⟩).size ≤ 300 ∧ 1 ≤ (EncB ⟨f0, f1, ⟨k1, k2, k3⟩, ⟨b1, b2, b3⟩, f4, f5, f6⟩).size := by
  unfold EncB
  simp only [ByteArray.size_append]
  omega
 have r : ∀ x : Int, -1000 ≤ x → x ≤ 1000 → Pure.I64 x := fun x a b => ⟨by omega, by omega⟩
 exact ⟨⟨⟨by show f0.size ≤ 9000; omega, r _ (by show -1000 ≤ f1; omega) (by show f1 ≤ 1000; omega), ⟨r _ (by show -1000 ≤ k1; omega) (by show k1 ≤ 1000; omega), r _ (by show -1000 ≤ k2; omega) (by show k2 ≤ 1000; omega), r _ (by show -1000 ≤ k3; omega) (by show k3 ≤ 1000; omega)⟩, ⟨r _ (by show -1000 ≤ b1; omega) (by show b1 ≤ 1000; omega), r _ (by show -1000 ≤ b2; omega) (by show b2 ≤ 1000; omega), r _ (by show -1000 ≤ b3; omega) (by show b3 ≤ 1000; omega)⟩, by show f4.size ≤ 9000; omega, r _ (by show -1000 ≤ f5; omega) (by show f5 ≤ 1000; omega), by show f6.length ≤ 9000; omega, fun t ht => by rw [e9 t ht]; omega, by omega⟩, ⟨by show f0.size ≤ 9223372036854775807; omega, r _ (by show -1000 ≤ f1; omega) (by show f1 ≤ 1000; omega), r _ (by show -1000 ≤ k1; omega) (by show k1 ≤ 1000; omega), r _ (by show -1000 ≤ k2; omega) (by show k2 ≤ 1000; omega), r _ (by show -1000 ≤ k3; omega) (by show k3 ≤ 1000; omega), r _ (by show -1000 ≤ b1; omega) (by show b1 ≤ 1000; omega), r _ (by show -1000 ≤ b2; omega) (by show b2 ≤ 1000; omega), r _ (by show -1000 ≤ b3; omega) (by show b3 ≤ 1000; omega)⟩, by show f6.length ≤ 1000; omega⟩, hz⟩
theorem made_pk {p : S55} (h : MadeP p) : PK p := (made_enc h).1
theorem plain52 {w : World} {A : Option Addr} {l : List S52} (hC : Kd.C k52 w A l.length l) (hn : 0 < l.length) : ∃ gk ok, A = some ⟨gk, ok, none⟩ := by
 obtain ⟨_, _, h3⟩ := hC
 obtain ⟨ad, rfl, h4⟩ := h3 hn
 obtain ⟨x, hx⟩ : ∃ x, l[0]? = some x := ⟨l[0], List.getElem?_eq_getElem hn⟩
 obtain ⟨cs, h5, h6, h7⟩ := h4 0 x hx
 obtain rfl := k52_open h6
 have h8 := h7 0 _ rfl
 obtain ⟨gb, ob, sp⟩ := ad
 cases sp with
 | none => exact ⟨gb, ob, rfl⟩
 | some s =>
   exfalso
   simp [Addr.add, World.cell?] at h8
   split at h8 <;> simp_all
theorem elem3 {w : World} {gk ok n : Nat} {l : List S52} {j : Nat} {x : S52} (hC : Kd.C k52 w (some ⟨gk, ok, none⟩) n l) (hx : l[j]? = some x) : w.rangeAt gk (ok + j * 3) [.int .i64 x.f0, .int .i64 x.f1, .int .i64 x.f2] := by
 obtain ⟨h1, _, h3⟩ := hC
 have hj : j < l.length := (List.getElem?_eq_some_iff.1 hx).1
 obtain ⟨ad, e1, h4⟩ := h3 (by omega)
 cases e1
 obtain ⟨cs, h5, h6, h7⟩ := h4 j x hx
 obtain rfl := k52_open h6
 intro i u hu
 have := h7 i u hu
 rw [Addr.add_mid] at this
 show w.cell? ⟨gk, ok + j * 3 + i, none⟩ = some u
 rw [Nat.add_assoc]
 exact this
theorem R_F {α : Type} {d : Kd α} {e base c : Nat} {ok : Nat → Prop} {w : World} {A : Option Addr} {l : List α} (h : d.R e w base ok (.slice A l.length c) l) : Kd.F d w ok A l.length l := fun W' hW => (Kd.R_reads' (Kd.R_step h (fun k hk hlt => hW k hk hlt))).2.2
theorem inf3a {cs : Array Value} (h : cs.size = 3) : (Try.prog.info? 64).map (·.size) = some cs.size := by rw [h]; kernel_rfl
theorem info55k : (Try.prog.info? 55).map (fun i => (i.zero, i.size, i.bytes)) = some (some (.agg ZP), k55.sz, 120) := by kernel_rfl
set_option maxHeartbeats 8000000 in
set_option maxRecDepth 100000 in
theorem patches_c (l : List S52) (A : Option Addr) (c : Nat) (w : World) (hC : Kd.C k52 w A l.length l) : Calls Try.prog 20 #[.slice A l.length c] w fun e w' => ∃ (P : List S55) (B : Option Addr) (d : Nat), e = .returned (.slice B P.length d) ∧ P.length ≤ d ∧ (0 < P.length → ∃ g, B = some ⟨g, 0, none⟩) ∧ Kd.F k55 w' (fun k => w.heap.size ≤ k) B P.length P ∧ (∀ p ∈ P, MadeP p) ∧ P.length ≤ 12 ∧ (0 < l.length → 0 < P.length) ∧ Below w.heap.size w w' := by
 have HC := Lib.hid hC
 have HPL := Lib.hid (show 0 < l.length → ∃ gk ok, A = some ⟨gk, ok, none⟩ from fun hn => plain52 hC hn)
 clear hC
 go_enter Try.func20, Try.ntmps20
 go_wp2
 go_loopg [3, 4] 13 (fun kq v3 v4 w' => ∃ (j : Nat) (P : List S55), v4 = .int .i64 (j : Int) ∧ j + kq = 13 ∧ j ≤ l.length ∧ j ≤ 12 ∧ P.length = j ∧ (∀ p ∈ P, MadeP p) ∧ Kd.R k55 55 w' w.heap.size (fun _ => True) v3 P ∧ Below w.heap.size w w')
 case atStart => exact ⟨0, [], rfl, by omega, by omega, by omega, rfl, fun p hp => absurd hp (by simp), Kd.R_nil _ _ _ _ _, Below.refl _ _⟩
 case round =>
  obtain ⟨j, P, rfl, hk, hj, hj12, hl, hP, hR, hB⟩ := hrel
  have HJ := Lib.hid (show j + gk = 13 ∧ j ≤ l.length ∧ P.length = j ∧ j ≤ 12 from ⟨hk, hj, hl, hj12⟩)
  have HP := Lib.hid hP
  have HR := Lib.hid hR
  have HB := Lib.hid hB
  clear hP hR hB hl
  by_cases c0 : j < l.length ∧ j < 12
  · have d1 : decide ((j : Int) < (l.length : Int)) = true := decide_eq_true (by omega)
    have d2 : decide ((j : Int) < 12) = true := decide_eq_true (by omega)
    obtain ⟨gk_, ok_, hA⟩ := HPL.out (by omega)
    subst hA
    obtain ⟨x, hx⟩ : ∃ x, l[j]? = some x := ⟨l[j], List.getElem?_eq_getElem c0.1⟩
    have HRG := Lib.hid (elem3 (Kd.C_below HC.out HB.out) hx)
    have i1 : ((0 : Int) ≤ (j : Int)) = True := eq_true (by omega)
    have i2 : ((j : Int) < (l.length : Int)) = True := eq_true (by omega)
    have e1 : wrap64 ((j : Int) + 1) = ((j + 1 : Nat) : Int) := by rw [rl64 (by omega) (by omega)]; omega
    clear hx hk hj hj12
    go_wp2_with (first
     | (refine wpList_load_mid rfl 64 (.tmp 18) rfl gk_ (ok_ + j * 3) rfl (#[.int .i64 x.f0, .int .i64 x.f1, .int .i64 x.f2] : Array Value).toList _ HRG.out Try.underlying64 rfl (inf3a rfl) ?_)
     | (go_at_call 29; refine (Made_c x.f0 x.f1 x.f2 _).mono ?_; rintro e w1 ⟨p, A1, c1, hp, rfl, hr, hb⟩; have HMP := Lib.hid hp; have HR1 := Lib.hid (Kd.R_below HR.out hb); have HRP := Lib.hid (Kd.R_lower (Kd.R_bound hr) HB.out.size); have HB1 := Lib.hid (HB.out.trans (hb.mono HB.out.size)); have HS1 := Lib.hid hb.size; clear hp hr hb)
     | ((with_reducible refine gate_builtin (b := .append) (xs := #[.tmp 15, .tmp 21]) rfl ?_); at_builtin
        go_loud (refine Kd.R_append k55 (w0 := w) (W := w1) w.heap.size rfl (.tmp 15) (.tmp 21) 42 55 (.agg ZP) 120 rfl und42 info55k rfl (show 0 < 11 by omega) (by omega) u3 P p [.string p.f0, .int .i64 p.f1, .int .i64 p.f2.f0, .int .i64 p.f2.f1, .int .i64 p.f2.f2, .int .i64 p.f3.f0, .int .i64 p.f3.f1, .int .i64 p.f3.f2, .string p.f4, .int .i64 p.f5, .slice A1 p.f6.length c1] (fun _ => True) _ rfl ?aX (k55_mkM _ _ _ p HRP.out) ?aP (fun _ _ => trivial) HR1.out HB1.out HB1.out.size ?aL ?_)
        go_loud (case aX => rfl)
        go_loud (case aP => exact fun k hk => ⟨trivial, fun he => by have h1 := ((Kd.R_bound HR.out).1 k he.symm).2.2; have h2 := hk.2.1; omega⟩)
        go_loud (case aL => have := HJ.out; omega)
        intro v9 w9 ho9 hb9 hg9 hat9
        have HO9 := Lib.hid ho9
        have HB9 := Lib.hid hb9
        clear ho9 hb9 hg9 hat9))
    cases gk with
    | zero => exact absurd HJ.out (by omega)
    | succ kk =>
      go_roundg kk
      case measure => omega
      case rel =>
       have h3 := HJ.out
       exact ⟨j + 1, P ++ [p], by first | rw [e1] | rfl, by omega, by omega, by omega, by rw [List.length_append, List.length_singleton]; omega, fun q hq => by
        rcases List.mem_append.1 hq with hq | hq
        · exact HP.out q hq
        · rw [List.mem_singleton.1 hq]; exact HMP.out, HO9.out, HB9.out⟩
  · have HEND := Lib.hid (show 0 < l.length → 0 < P.length from fun hn => by have h3 := HJ.out; omega)
    obtain ⟨B, d, rfl⟩ := Kd.R_slice HR.out
    have HRb := Lib.hid (Kd.R_mono (ok' := fun k => w.heap.size ≤ k) (Kd.R_bound HR.out) (fun k hk => hk.2.1))
    have HL := Lib.hid (show P.length ≤ 12 from by have := HJ.out; omega)
    have HCAP := Lib.hid (Kd.R_reads' HR.out).2.1
    have HSM := Lib.hid (show 0 < P.length → ∃ g, B = some ⟨g, 0, none⟩ from fun hn => R_some HR.out hn)
    by_cases c1 : j < l.length
    · have d1 : decide ((j : Int) < (l.length : Int)) = true := decide_eq_true (by omega)
      have d2 : decide ((j : Int) < 12) = false := decide_eq_false (by omega)
      have n1 : (j < l.length) = True := eq_true c1
      have n2 : (j < 12) = False := eq_false (by omega)
      clear hk hj hj12 c0 c1
      go_wp2
      go_ret
      exact ⟨P, B, d, rfl, HCAP.out, HSM.out, R_F HRb.out, HP.out, HL.out, HEND.out, HB.out⟩
    · have d1 : decide ((j : Int) < (l.length : Int)) = false := decide_eq_false (by omega)
      have hje : j = l.length := by omega
      subst hje
      clear hk hj hj12 c0 c1 d1
      go_wp2
      go_ret
      exact ⟨P, B, d, rfl, HCAP.out, HSM.out, R_F HRb.out, HP.out, HL.out, HEND.out, HB.out⟩
end Go.Proofs.Ythokkeljfdfppaa.Rl

/- RelayTells. -/
set_option linter.unusedVariables false
set_option linter.unusedSimpArgs false
namespace Go.Proofs.Ythokkeljfdfppaa.Rl
open Go.RowKit Go.Proofs.YthokkeljfdfppaaW.PrintWords Go.Proofs.YthokkeljfdfppaaW.PrintLast Go.Proofs.YthokkeljfdfppaaW.PrintMore Go.Proofs.Ythokkeljfdfppaa.Pb Go.Proofs.Ythokkeljfdfppaa.Gw Go.Proofs.Ythokkeljfdfppaa.Pure
theorem sameP_self (l : List S55) (A0 : Option Addr) (c0 : Nat) (A1 : Option Addr) (c1 : Nat) (w : World) (hC : Kd.C k55 w A0 l.length l) (hA : 0 < l.length → ∃ gk, A0 = some ⟨gk, 0, none⟩) (hD : Kd.C k55 w A1 l.length l) (hB : 0 < l.length → ∃ gk, A1 = some ⟨gk, 0, none⟩) (hl : l.length ≤ 9000) (hp : ∀ p ∈ l, p.f6.length ≤ 9000) :
 Calls Try.prog 24 #[.slice A0 l.length c0, .slice A1 l.length c1] w fun e w' => e = .returned (.bool true) ∧ Below w.heap.size w w' := by
 have := SamePatches_c l l A0 c0 A1 c1 w hC hA hD hB hl hp
 rw [(eqPs_iff l l).2 rfl] at this
 exact this
structure PatRow (w : World) (Q : Nat → Prop) (B : Option Addr) (d : Nat) (P : List S55) : Prop where
 cap : P.length ≤ d
 plain : 0 < P.length → ∃ g, B = some ⟨g, 0, none⟩
 row : Kd.F k55 w Q B P.length P
 made : ∀ p ∈ P, MadeP p
 few : P.length ≤ 12
section
variable {w w1 : World} {Q : Nat → Prop} {B : Option Addr} {d : Nat} {P : List S55}
theorem PatRow.below (h : PatRow w Q B d P) (hb : Below w.heap.size w w1) : PatRow w1 Q B d P := ⟨h.cap, h.plain, Kd.F_below h.row hb, h.made, h.few⟩
theorem PatRow.c (h : PatRow w Q B d P) : Kd.C k55 w B P.length P := Kd.F_now h.row
end
theorem patches_r (l : List S52) (A : Option Addr) (c : Nat) (w : World) (hC : Kd.C k52 w A l.length l) : Calls Try.prog 20 #[.slice A l.length c] w fun e w' => ∃ (P : List S55) (B : Option Addr) (d : Nat), e = .returned (.slice B P.length d) ∧ PatRow w' (fun k => w.heap.size ≤ k) B d P ∧ Below w.heap.size w w' := by
 refine (patches_c l A c w hC).mono ?_
 rintro e w' ⟨P, B, d, rfl, h1, h2, h3, h4, h5, _, h6⟩
 exact ⟨P, B, d, rfl, ⟨h1, h2, h3, h4, h5⟩, h6⟩
end Go.Proofs.Ythokkeljfdfppaa.Rl

