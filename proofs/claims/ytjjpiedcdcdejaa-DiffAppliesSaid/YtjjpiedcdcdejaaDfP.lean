/- The law DiffApplies. -/
import Derived.Test.YtjjpiedcdcdejaaDfS
import Derived.Test.YtjjpiedcdcdejaaPby5
set_option linter.unusedVariables false
set_option linter.unusedSimpArgs false
namespace Go.Proofs.Ytjjpiedcdcdejaa.Pure
open Go.RowKit Go.Proofs.Ytjjpiedcdcdejaa.Pb Go.Proofs.YtjjpiedcdcdejaaW.PrintWords Go.Proofs.YtjjpiedcdcdejaaW.PrintLast Go.Proofs.YtjjpiedcdcdejaaW.PrintMore Go.Proofs.Ytjjpiedcdcdejaa.Gw Go.Proofs.Ytjjpiedcdcdejaa.Df
theorem seg_join {s tg : ByteArray} {fr : Nat} {cs : List Int} {ts : List ByteArray} (h : Seg s tg fr cs ts) (hz : tg.size ≤ 70000) : ∀ acc : ByteArray, (join TextB ts acc).size ≤ acc.size + 10 * ts.length + (tg.size - fr) := by
  induction h with
  | last fr h hN =>
    intro acc
    have h1 : (tg.extract fr tg.size).size = tg.size - fr := by rw [ByteArray.size_extract]; omega
    have h2 := TextB_size (tg.extract fr tg.size) (by omega)
    show (acc ++ TextB (tg.extract fr tg.size)).size ≤ _
    rw [ByteArray.size_append, List.length_singleton]
    omega
  | copy fr p f n cs ts hf hN h4 hfs hl hm hm2 hp hS ih =>
    intro acc
    have h1 : (tg.extract fr p).size = p - fr := by rw [ByteArray.size_extract]; omega
    have h2 := TextB_size (tg.extract fr p) (by omega)
    have h3 := ih (acc ++ TextB (tg.extract fr p))
    rw [ByteArray.size_append] at h3
    show (join TextB ts (acc ++ TextB (tg.extract fr p))).size ≤ _
    rw [List.length_cons]
    omega
theorem MakeB_size (s tg : ByteArray) (hs : s.size ≤ 1000000) (ht : tg.size ≤ 480) : (MakeB s tg).size ≤ 8000 := by
  have h := Pcs_seg s tg
  have hl := h.lens
  have hS := Pcs_small' s tg hs (by omega)
  have h1 := IntsB_size _ hS.c hS.o
  have h2 := seg_join h (by omega) (IntB ((Pcs s tg).2.length : Int))
  have h3 := IntB_small ((Pcs s tg).2.length : Int) (by omega) (by omega)
  have e : TextsB (Pcs s tg).2 = join TextB (Pcs s tg).2 (IntB ((Pcs s tg).2.length : Int)) := rfl
  rw [MakeB, codeB, ByteArray.size_append, e]
  omega
theorem rd_in {l : List ByteArray} {i : Nat} (h : i < l.length) : rdOf ByteArray.empty l (i : Int) ∈ l := by
  rw [rd_some' (List.getElem?_eq_getElem h)]
  exact List.getElem_mem h
theorem applies_l1 (d : ByteArray) (up : Bool) (y : ByteArray) (hy : y.size ≤ 9000) (L : List ByteArray) (n x64 : Int) (bs : List ByteArray) (hb : bs.length ≤ 100) (hbz : ∀ b ∈ bs, b.size ≤ 1000000) (c : ByteArray) (l : List Int) (r : Bool)
    (h : Ev (fun k => abugidalaw24_DiffApplies.l0 k d up L n (wrap64 (x64 + 1)) c l) r) (q : Nat) : ∀ i : Nat, bs.length - i = q → i ≤ bs.length → Ev (fun k => abugidalaw24_DiffApplies.l1 k d up y L n x64 bs (bs.length : Int) i c l) r := by
  induction q with
  | zero =>
    intro i hq hi
    refine Ev.step (fun k => abugidalaw24_DiffApplies.l1.eq_2 ..) ?_
    refine evN (by omega) ?_
    exact h
  | succ q ih =>
    intro i hq hi
    obtain ⟨⟨t, e⟩, h1, h2⟩ := Apply_same (rdOf ByteArray.empty bs (i : Int)) y (hbz _ (rd_in (by omega))) hy
    refine Ev.step (fun k => abugidalaw24_DiffApplies.l1.eq_2 ..) ?_
    refine evI (by omega) ?_
    refine evI (by omega) ?_
    refine evI (by omega) ?_
    refine Ev.bind h1 ?_
    refine Ev.bind h2 ?_
    refine evI rfl ?_
    refine evI rfl ?_
    rw [wadd1 i (by omega)]
    exact ih (i + 1) (by omega) (by omega)
theorem applies_l0 (d : ByteArray) (hd : d.size ≤ 9000) (L : List ByteArray) (hL : L.length ≤ 100) (hLz : ∀ y ∈ L, y.size ≤ 9000) (c : ByteArray) (l : List Int) (q : Nat) : ∀ i : Nat, L.length - i = q → i ≤ L.length → Ev (fun k => abugidalaw24_DiffApplies.l0 k d true L (L.length : Int) i c l) true := by
  induction q with
  | zero =>
    intro i hq hi
    refine Ev.step (fun k => abugidalaw24_DiffApplies.l0.eq_2 ..) ?_
    refine evN (by omega) ?_
    exact Ev.now _
  | succ q ih =>
    intro i hq hi
    have zc := cut200_size c
    have hw : wrap64 ((((cut200 c).size : Nat) : Int) / 2) = (((cut200 c).size : Nat) : Int) / 2 := w64 (by omega) (by omega)
    refine Ev.step (fun k => abugidalaw24_DiffApplies.l0.eq_2 ..) ?_
    refine evI (by omega) ?_
    refine evI (by omega) ?_
    refine evI (by omega) ?_
    refine Ev.bind (base_ev c l) ?_
    refine Ev.bind (base_ev c l) ?_
    refine Ev.bind (base_ev c l) ?_
    rw [hw]
    clear hw
    refine evI (by omega) ?_
    refine evI (by omega) ?_
    refine Ev.bind (Ev.now _) ?_
    refine applies_l1 d true _ (hLz _ (rd_in (by omega))) L _ _ _ (by show 3 ≤ 100; omega) ?_ c l true ?_ 3 0 rfl (by show 0 ≤ 3; omega)
    · intro b hb
      rcases List.mem_cons.1 hb with rfl | hb
      · omega
      · rcases List.mem_cons.1 hb with rfl | hb
        · omega
        · rw [List.mem_singleton.1 hb, ByteArray.size_extract]; omega
    · rw [wadd1 i (by omega)]
      exact ih (i + 1) (by omega) (by omega)
theorem diffApplies_ev (a c : ByteArray) (l : List Int) (x0 x1 : Int) (x2 : ByteArray) (h0 : 0 ≤ x0 ∧ x0 ≤ 255) (h1 : 0 ≤ x1 ∧ x1 ≤ 255) : Ev (fun k => abugidalaw24_DiffApplies.f k a c l x0 x1 x2) true := by
  obtain ⟨t, ht, hT⟩ := target_ev c l
  have za := cut200_size a
  have zc := cut200_size c
  have hz := MakeB_size (cut200 c) t (by omega) ht
  have hR := refMake_ev (cut200 c) t (by omega) (by omega) (Pcs_small' _ _ (by omega) (by omega))
  obtain ⟨d, hd⟩ : ∃ d, d = MakeB (cut200 c) t := ⟨_, rfl⟩
  rw [← hd] at hz hR
  have e2 : Int.tmod x1 4 = x1 % 4 := Int.tmod_eq_emod_of_nonneg h1.1
  obtain ⟨at_, hat⟩ : ∃ at_, at_ = x0 % ((d.size : Int) + 1) := ⟨_, rfl⟩
  have hat0 : 0 ≤ at_ := by rw [hat]; exact Int.emod_nonneg _ (by omega)
  have hat1 : at_ < (d.size : Int) + 1 := by rw [hat]; exact Int.emod_lt_of_pos _ (by omega)
  obtain ⟨q, hq⟩ : ∃ q, q = x1 % 4 := ⟨_, rfl⟩
  have hq0 : 0 ≤ q ∧ q < 4 := by omega
  obtain ⟨tq, hto⟩ : ∃ tq, tq = mn (d.size : Int) (at_ + q) := ⟨_, rfl⟩
  have hto0 : 0 ≤ tq ∧ tq ≤ d.size := by rw [hto]; unfold mn; split <;> omega
  obtain ⟨m8, hm8⟩ : ∃ m8, m8 = mn (x2.size : Int) 8 := ⟨_, rfl⟩
  have hm0 : 0 ≤ m8 ∧ m8 ≤ 8 ∧ m8 ≤ x2.size := by rw [hm8]; unfold mn; split <;> omega
  have z1 : (d.extract 0 at_.toNat).size ≤ 8000 := by rw [ByteArray.size_extract]; omega
  have z2 : (x2.extract 0 m8.toNat).size ≤ 8 := by rw [ByteArray.size_extract]; omega
  have z3 : (d.extract tq.toNat d.size).size ≤ 8000 := by rw [ByteArray.size_extract]; omega
  have z5 : at_ ≤ tq := by rw [hto]; unfold mn; split <;> omega
  have z6 : (d.extract 0 at_.toNat).size = at_.toNat := by rw [ByteArray.size_extract]; omega
  have z7 : (d.extract tq.toNat d.size).size = d.size - tq.toNat := by rw [ByteArray.size_extract]; omega
  have z4 : (d.extract 0 at_.toNat ++ x2.extract 0 m8.toNat ++ d.extract tq.toNat d.size).size ≤ 9000 := by
    rw [ByteArray.size_append, ByteArray.size_append]
    omega
  unfold abugidalaw24_DiffApplies.f
  refine Ev.bind sanity_ev ?_
  refine Ev.bind (cut_ev a) ?_
  refine Ev.bind (base_ev c l) ?_
  refine Ev.bind hT ?_
  refine Ev.bind hR ?_
  rw [w64 (x := (d.size : Int) + 1) (by omega) (by omega), w64 (x := x0) (by omega) (by omega), w64 (x := x1) (by omega) (by omega), e2, ← hq, show Int.tmod x0 ((d.size : Int) + 1) = at_ by rw [hat]; exact Int.tmod_eq_emod_of_nonneg h0.1, w64 (x := at_ + q) (by omega) (by omega), ← hto, ← hm8]
  refine evN (by omega) ?_
  refine evI (by omega) ?_
  refine evI (by omega) ?_
  refine evI (by omega) ?_
  refine evI (by omega) ?_
  refine evI (by omega) ?_
  refine evI (by omega) ?_
  refine evI (by omega) ?_
  refine evI (by rw [ByteArray.size_append]; omega) ?_
  refine Ev.bind (Ev.now _) ?_
  refine applies_l0 (cut200 a) (by omega) _ (by show 3 ≤ 100; omega) ?_ c l 3 0 rfl (by show 0 ≤ 3; omega)
  intro b hb
  rcases List.mem_cons.1 hb with rfl | hb
  · omega
  · rcases List.mem_cons.1 hb with rfl | hb
    · omega
    · rw [List.mem_singleton.1 hb]; omega
theorem u8_of {a : Int} (h : (Lit.int .u8 a).wf = true) : 0 ≤ a ∧ a ≤ 255 := by simp [Lit.wf] at h; exact h
theorem diffApplies_calls (w : World) (a0 : ByteArray) (z0 : a0.size ≤ 9223372036854775807) (b : ByteArray) (zb : b.size ≤ 9223372036854775807)
    (A : Option Addr) (c : Nat) (l : List Int) (hC : Kd.C (Kd.int .i64) w A l.length l) (hc : l.length ≤ c) (hl : l.length ≤ 9223372036854775807) (hw : ∀ n ∈ l, (Lit.int .i64 n).wf = true)
    (x0 : Int) (w0 : (Lit.int .u8 x0).wf = true) (x1 : Int) (w1 : (Lit.int .u8 x1).wf = true) (x2 : ByteArray) (z2 : x2.size ≤ 9223372036854775807) :
    Calls Try.prog 4 #[.string a0, .agg #[.string b, .slice A l.length c], .agg #[.int .u8 x0, .int .u8 x1, .string x2]] w fun e w' => e = .returned (.bool true) ∧ Below w.heap.size w w' := by
  obtain ⟨k, hk⟩ := (diffApplies_ev a0 b l x0 x1 x2 (u8_of w0) (u8_of w1)).rounds
  exact abugidalaw24_DiffApplies.calls k a0 b A c l x0 x1 x2 true w hC hc hk
end Go.Proofs.Ytjjpiedcdcdejaa.Pure
