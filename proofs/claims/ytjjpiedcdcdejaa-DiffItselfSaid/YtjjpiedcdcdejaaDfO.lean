/- The laws DiffMakes and DiffItself. -/
import Derived.Test.YtjjpiedcdcdejaaDfS
import Derived.Test.YtjjpiedcdcdejaaPby4
set_option linter.unusedVariables false
set_option linter.unusedSimpArgs false
namespace Go.Proofs.Ytjjpiedcdcdejaa.Pure
open Go.RowKit Go.Proofs.Ytjjpiedcdcdejaa.Pb Go.Proofs.YtjjpiedcdcdejaaW.PrintWords Go.Proofs.YtjjpiedcdcdejaaW.PrintLast Go.Proofs.YtjjpiedcdcdejaaW.PrintMore Go.Proofs.Ytjjpiedcdcdejaa.Gw Go.Proofs.Ytjjpiedcdcdejaa.Df
theorem Make_both (s tg : ByteArray) (hs : s.size ≤ 60000) (ht : tg.size ≤ 2000) : Ev (fun k => diff_Make.f k s tg) (MakeB s tg) ∧ Ev (fun k => abugidaref24_Make.f k s tg) (MakeB s tg) :=
  ⟨Make_ev s tg (by omega) (by omega) (Pcs_small' s tg (by omega) ht), refMake_ev s tg (by omega) (by omega) (Pcs_small' s tg (by omega) ht)⟩
theorem diffMakes_ev (a b c : ByteArray) (l : List Int) : Ev (fun k => abugidalaw24_DiffMakes.f k a b c l) true := by
  obtain ⟨t, ht, hT⟩ := target_ev c l
  have za := cut200_size a
  have zb := cut200_size b
  have zc := cut200_size c
  obtain ⟨p1, r1⟩ := Make_both (cut200 a) (cut200 b) (by omega) (by omega)
  obtain ⟨p2, r2⟩ := Make_both (cut200 c) t (by omega) (by omega)
  obtain ⟨p3, r3⟩ := Make_both (cut200 b) t (by omega) (by omega)
  unfold abugidalaw24_DiffMakes.f
  refine Ev.bind sanity_ev ?_
  refine Ev.bind (cut_ev a) ?_
  refine Ev.bind (cut_ev b) ?_
  refine evI rfl ?_
  refine Ev.bind p1 ?_
  refine Ev.bind r1 ?_
  refine evI rfl ?_
  refine Ev.bind (base_ev c l) ?_
  refine Ev.bind hT ?_
  refine Ev.bind p2 ?_
  refine Ev.bind (base_ev c l) ?_
  refine Ev.bind hT ?_
  refine Ev.bind r2 ?_
  refine evI rfl ?_
  refine Ev.bind hT ?_
  refine Ev.bind p3 ?_
  refine Ev.bind hT ?_
  refine Ev.bind r3 ?_
  rw [beq_self_eq_true]
  exact Ev.now _
theorem diffMakes_calls (w : World) (a0 : ByteArray) (z0 : a0.size ≤ 9223372036854775807) (a1 : ByteArray) (z1 : a1.size ≤ 9223372036854775807) (b : ByteArray) (zb : b.size ≤ 9223372036854775807)
    (A : Option Addr) (c : Nat) (l : List Int) (hC : Kd.C (Kd.int .i64) w A l.length l) (hc : l.length ≤ c) (hl : l.length ≤ 9223372036854775807) (hw : ∀ n ∈ l, (Lit.int .i64 n).wf = true) :
    Calls Try.prog 3 #[.string a0, .string a1, .agg #[.string b, .slice A l.length c]] w fun e w' => e = .returned (.bool true) ∧ Below w.heap.size w w' := by
  obtain ⟨k, hk⟩ := (diffMakes_ev a0 a1 b l).rounds
  exact abugidalaw24_DiffMakes.calls k a0 a1 b A c l true w hC hc hk
theorem Pcs_self (s : ByteArray) (h : 4 ≤ s.size) : Pcs s s = ([0, (s.size : Int)], [⟨#[]⟩, ⟨#[]⟩]) := by
  have hlk : like s s 0 0 = s.size := by
    have h1 := (like_spec s s 0 0 (by omega) (by omega)).1
    have h2 := like_ge s s 0 0 s.size (by omega) (by omega) (fun j hj => rfl)
    have e : like s s ((0 : Nat) : Int) 0 = like s s 0 0 := rfl
    omega
  have hB : IsB s s 0 s.size 0 (s.size : Int) := .inr ⟨0, s.size, rfl, rfl, by omega, by omega, hlk, fun j hj => by have := like_le s s j 0; omega, fun j hj => by omega⟩
  have he := isB_unique (lgAt_isB s s 0) hB
  have hlg : lgAt s s 0 = (0, (s.size : Int)) := Prod.ext he.1 he.2
  have hb : bestAt s s 0 = (0, (s.size : Int)) := by
    rcases bestAt_lg s s 0 (by omega) with ⟨_, h⟩ | ⟨_, h⟩
    · rw [← h, hlg]
    · rw [hlg] at h
      have h : (s.size : Int) < 4 := h
      omega
  have e0 : s.extract 0 0 = ⟨#[]⟩ := by apply ByteArray.ext; simp
  have e1 : s.extract s.size s.size = ⟨#[]⟩ := by apply ByteArray.ext; simp
  unfold Pcs
  rw [pcs_take (by omega) (by rw [hb]; show ¬ (s.size : Int) = 0; omega), hb]
  show pcs s s s.size (0 + ((s.size : Int)).toNat) (0 + ((s.size : Int)).toNat) ([] ++ [0, (s.size : Int)]) ([] ++ [s.extract 0 0]) = _
  rw [show 0 + ((s.size : Int)).toNat = s.size by omega, pcs_none (by omega), e0, e1]
  rfl
theorem diffItself_ev (a : ByteArray) (c : Int) : Ev (fun k => abugidalaw24_DiffItself.f k a c) true := by
  have za := cut200_size a
  obtain ⟨s, hs⟩ : ∃ s : ByteArray, s = cut200 a ++ ⟨#[102, 111, 117, 114]⟩ := ⟨_, rfl⟩
  have zs : s.size = (cut200 a).size + 4 := by rw [hs, ByteArray.size_append]; rfl
  have hP := Pcs_self s (by omega)
  have hS : Small [0, (s.size : Int)] [⟨#[]⟩, ⟨#[]⟩] := by
    refine ⟨by show 2 ≤ 1000; omega, by show 2 ≤ 1000; omega, fun x hx => ?_, fun t ht => ?_⟩
    · rcases List.mem_cons.1 hx with rfl | hx
      · omega
      · rw [List.mem_singleton.1 hx]; omega
    · have : t = ⟨#[]⟩ := by
        rcases List.mem_cons.1 ht with rfl | ht
        · rfl
        · exact List.mem_singleton.1 ht
      rw [this]
      decide
  have hz := codeB_size _ _ hS.c hS.t hS.o hS.z
  have hp : 0 < (codeB [0, (s.size : Int)] [⟨#[]⟩, ⟨#[]⟩]).size := by
    have := IntB_pos (([0, (s.size : Int)] : List Int).length : Int)
    have h2 := join_ge IntB [0, (s.size : Int)] (fun x _ => IntB_pos x) (IntB (([0, (s.size : Int)] : List Int).length : Int))
    rw [codeB, ByteArray.size_append]
    unfold IntsB
    omega
  have hM := Make_is (s := s) (tg := s) (by omega) (by omega) hP
  have h1 : (strOfNums [c]).size = 1 := by rw [strOfNums_size]; rfl
  obtain ⟨d, hd⟩ : ∃ d, d = codeB [0, (s.size : Int)] [⟨#[]⟩, ⟨#[]⟩] := ⟨_, rfl⟩
  have hcut := Apply_cut s _ _ hS (by omega) (((d.size : Int) - 1)).toNat (by rw [← hd] at hp ⊢; omega)
  have hmore := Apply_code s _ _ (strOfNums [c]) hS (by omega) (by omega)
  rw [applyF_bad (.inr (.inl (by omega)))] at hmore
  have hcode := code_ev _ _ hS
  rw [← hd] at hM hz hp hcut hmore hcode
  unfold abugidalaw24_DiffItself.f
  refine Ev.bind sanity_ev ?_
  refine Ev.bind (cut_ev a) ?_
  refine evI (by omega) ?_
  rw [← hs]
  refine Ev.bind hM ?_
  refine Ev.bind (Ev.now [c]) ?_
  refine evI (by omega) ?_
  refine evI rfl ?_
  refine Ev.bind hcode ?_
  refine evI rfl ?_
  rw [w64 (x := (d.size : Int) - 1) (by omega) (by omega)]
  refine evI (by omega) ?_
  refine evI (by omega) ?_
  refine Ev.bind (fails_of hcut) ?_
  refine evI rfl ?_
  exact Ev.bind (fails_of hmore) (Ev.now _)
theorem diffItself_calls (w : World) (a0 : ByteArray) (z0 : a0.size ≤ 9223372036854775807) (a1 : Int) (w1 : (Lit.int .u8 a1).wf = true) :
    Calls Try.prog 8 #[.string a0, .int .u8 a1] w fun e w' => e = .returned (.bool true) ∧ Below w.heap.size w w' := by
  obtain ⟨k, hk⟩ := (diffItself_ev a0 a1).rounds
  exact abugidalaw24_DiffItself.calls k a0 a1 true w hk
end Go.Proofs.Ytjjpiedcdcdejaa.Pure
