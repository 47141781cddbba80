/- The examples of the chapter; targets that numbers make. -/
import Derived.Test.YtjjpiedcdcdejaaMgK
import Derived.Test.YtjjpiedcdcdejaaPby3
set_option linter.unusedVariables false
set_option linter.unusedSimpArgs false
namespace Go.Proofs.Ytjjpiedcdcdejaa.Pure
open Go.RowKit Go.Proofs.Ytjjpiedcdcdejaa.Pb Go.Proofs.YtjjpiedcdcdejaaW.PrintWords Go.Proofs.YtjjpiedcdcdejaaW.PrintLast Go.Proofs.YtjjpiedcdcdejaaW.PrintMore Go.Proofs.Ytjjpiedcdcdejaa.Gw Go.Proofs.Ytjjpiedcdcdejaa.Df
theorem and_le (x : Int) (m : Nat) (hm : m < 9223372036854775808) : 0 ≤ Go.bits .and .i64 x m ∧ Go.bits .and .i64 x m ≤ m := by
  have h1 : (BitVec.ofInt 64 x &&& BitVec.ofInt 64 (m : Int)).toNat ≤ m := by
    rw [BitVec.toNat_and]
    refine Nat.le_trans Nat.and_le_right ?_
    rw [BitVec.toNat_ofInt]
    omega
  have e : Go.bits .and .i64 x m = IntKind.i64.wrap ((BitVec.ofInt 64 x &&& BitVec.ofInt 64 (m : Int)).toNat : Int) := rfl
  rw [e, IntKind.wrap_i64]
  omega
theorem Texts_bad (q : ByteArray) : Ev (fun k => wire_Reader_Texts.f k q true) ([], q, true) := by
  unfold wire_Reader_Texts.f
  refine Ev.bind (length_of_bad q q true (Int_bad q)) ?_
  exact evI (by show (0 : Int) ≤ 9223372036854775807; decide) (Ev.now _)
/-- Without some bytes at its end nothing is made of a difference. -/
theorem Apply_cut (s : ByteArray) (cs : List Int) (ts : List ByteArray) (h : Small cs ts) (hs : s.size ≤ 1000000) (m : Nat) (hm : m < (codeB cs ts).size) : Ev (fun k => diff_Apply.f k s ((codeB cs ts).extract 0 m)) (⟨#[]⟩, 4) := by
  have hz := TextsB_size ts h.t h.z
  have ht := h.t
  have hc := h.c
  unfold diff_Apply.f
  rw [codeB, ByteArray.size_append] at hm
  unfold codeB
  by_cases hlt : m < (IntsB cs).size
  · rw [ext_lo _ _ _ (by omega)]
    obtain ⟨q, hq⟩ := Ints_cut cs h.c h.o m hlt
    refine Ev.bind hq ?_
    refine Ev.bind (Texts_bad q) ?_
    refine evI ⟨by omega, by simp, by simp, by simp⟩ ?_
    rw [applyF_bad (.inl rfl)]
    exact Ev.now _
  · rw [ext_hi _ _ _ (by omega)]
    obtain ⟨q, hq⟩ := Texts_cut ts h.t h.z (m - (IntsB cs).size) (by omega)
    refine Ev.bind (Ints_ev cs _ h.c h.o (by rw [size_cut _ _ (by omega)]; omega)) ?_
    refine Ev.bind hq ?_
    refine evI ⟨by omega, by show cs.length ≤ _; omega, by simp, by simp⟩ ?_
    rw [applyF_bad (.inl rfl)]
    exact Ev.now _
theorem fails_of {s d : ByteArray} {e : Int} (h : Ev (fun k => diff_Apply.f k s d) (⟨#[]⟩, e)) : Ev (fun k => abugidalaw24_fails.f k s d e) true := by
  unfold abugidalaw24_fails.f
  refine Ev.bind h ?_
  refine evI (by show (⟨#[]⟩ : ByteArray).toList = []; decide +kernel) ?_
  rw [show ((e == e) : Bool) = true from beq_self_eq_true e]
  exact Ev.now _
theorem fails_code {s : ByteArray} {cs : List Int} {ts : List ByteArray} {e : Int} (hS : Small cs ts) (hs : s.size ≤ 1000000) (h : applyF s cs ts ⟨#[]⟩ false = (⟨#[]⟩, e)) : Ev (fun k => abugidalaw24_fails.f k s (codeB cs ts) e) true :=
  fails_of (by have := Apply_code0 s cs ts hS hs; rwa [h] at this)
def smallB (cs : List Int) (ts : List ByteArray) : Bool := decide (cs.length ≤ 1000) && decide (ts.length ≤ 1000) && cs.all (fun x => decide (-9223372036854775808 ≤ x) && decide (x ≤ 9223372036854775807)) && ts.all (fun t => decide (t.size ≤ 70000))
theorem small_of {cs : List Int} {ts : List ByteArray} (h : smallB cs ts = true) : Small cs ts := by
  unfold smallB at h
  simp only [Bool.and_eq_true, decide_eq_true_eq, List.all_eq_true] at h
  exact ⟨h.1.1.1, h.1.1.2, h.1.2, h.2⟩
theorem Make_is {s tg : ByteArray} {cs : List Int} {ts : List ByteArray} (hs : s.size ≤ 65536) (ht : tg.size ≤ 2000) (h : Pcs s tg = (cs, ts)) : Ev (fun k => diff_Make.f k s tg) (codeB cs ts) := by
  have := Make_ev s tg hs (by omega) (Pcs_small' s tg (by omega) ht)
  rwa [MakeB, h] at this
theorem pcs1 : Pcs ⟨#[97, 98, 99, 100, 101, 102]⟩ ⟨#[97, 98, 99, 100, 88, 99, 100, 101, 102]⟩ = ([0, 4, 2, 4], [⟨#[]⟩, ⟨#[88]⟩, ⟨#[]⟩]) := by decide +kernel
theorem pcs2 : Pcs ⟨#[97, 98, 99, 97, 98, 99, 100]⟩ ⟨#[97, 98, 99, 100, 97, 98, 99, 120]⟩ = ([3, 4], [⟨#[]⟩, ⟨#[97, 98, 99, 120]⟩]) := by decide +kernel
theorem pcs3 : Pcs ⟨#[97, 98, 99]⟩ ⟨#[97, 98, 99]⟩ = ([], [⟨#[97, 98, 99]⟩]) := by decide +kernel
theorem app1 : applyF ⟨#[97, 98, 99, 100, 101, 102]⟩ [1, 2, 0, 1] [⟨#[60]⟩, ⟨#[]⟩, ⟨#[62]⟩] ⟨#[]⟩ false = (⟨#[60, 98, 99, 97, 62]⟩, 0) := by decide +kernel
theorem app2 : applyF ⟨#[97, 98, 99]⟩ [1, 3] [⟨#[]⟩, ⟨#[]⟩] ⟨#[]⟩ false = (⟨#[]⟩, 3) := by decide +kernel
theorem app3 : applyF ⟨#[97, 98, 99]⟩ [3, 1] [⟨#[]⟩, ⟨#[]⟩] ⟨#[]⟩ false = (⟨#[]⟩, 3) := by decide +kernel
theorem app4 : applyF ⟨#[97, 98, 99]⟩ [0, 0] [⟨#[]⟩, ⟨#[]⟩] ⟨#[]⟩ false = (⟨#[]⟩, 3) := by decide +kernel
theorem app5 : applyF ⟨#[97, 98, 99]⟩ [(-1), 2] [⟨#[]⟩, ⟨#[]⟩] ⟨#[]⟩ false = (⟨#[]⟩, 3) := by decide +kernel
theorem cut_ev (a : ByteArray) : Ev (fun _ => abugidalaw24_cut.f a) (cut200 a) := by
  unfold abugidalaw24_cut.f
  have h1 : mn (a.size : Int) 200 = ((min a.size 200 : Nat) : Int) := by unfold mn; split <;> omega
  rw [h1]
  refine evI (by omega) ?_
  refine evI (by omega) ?_
  exact Ev.now _
theorem cut200_size (a : ByteArray) : (cut200 a).size ≤ 200 := by rw [cut200, ByteArray.size_extract]; omega
theorem base_ev (a : ByteArray) (l : List Int) : Ev (fun _ => abugidalaw24_Case_base.f a l) (cut200 a) := by
  unfold abugidalaw24_Case_base.f
  exact Ev.bind (cut_ev a) (Ev.now _)
theorem Made_loop (b : ByteArray) (hb : b.size ≤ 200) (l : List Int) (d : Nat) : ∀ (i : Nat) (acc : ByteArray), 12 - i = d → i ≤ 12 → acc.size ≤ 40 * i → ∃ t : ByteArray, t.size ≤ 480 ∧ Ev (fun k => abugidaref24_Made.l0 k b l acc i) t := by
  induction d with
  | zero =>
    intro i acc hd hi ha
    refine ⟨acc, by omega, ?_⟩
    have hj : Ev (fun k => abugidaref24_Made.j1 k b l acc i false) acc := by
      refine Ev.step (fun k => abugidaref24_Made.j1.eq_2 ..) ?_
      exact evN Bool.false_ne_true (Ev.now _)
    refine Ev.step (fun k => abugidaref24_Made.l0.eq_2 ..) ?_
    rw [show decide ((i : Int) < 12) = false from decide_eq_false (by omega)]
    by_cases c : (i : Int) < (l.length : Int)
    · exact evI c hj
    · exact evN c hj
  | succ d ih =>
    intro i acc hd hi ha
    by_cases c : i < l.length
    · have key : ∀ x : ByteArray, x.size ≤ 40 → ∃ t : ByteArray, t.size ≤ 480 ∧ Ev (fun k => abugidaref24_Made.l0 k b l (acc ++ x) (wrap64 ((i : Int) + 1))) t := by
        intro x hx
        rw [wadd1 i (by omega)]
        exact ih (i + 1) (acc ++ x) (by omega) (by omega) (by rw [ByteArray.size_append]; omega)
      have hop : ∀ {t : ByteArray}, Ev (fun k => abugidaref24_Made.j1 k b l acc i true) t → Ev (fun k => abugidaref24_Made.l0 k b l acc i) t := by
        intro t h
        refine Ev.step (fun k => abugidaref24_Made.l0.eq_2 ..) ?_
        rw [show decide ((i : Int) < 12) = true from decide_eq_true (by omega)]
        exact evI (by omega) h
      obtain ⟨h0, h1⟩ := and_le (rd l i) 1048575 (by omega)
      rw [show ((1048575 : Nat) : Int) = 1048575 from rfl] at h0 h1
      obtain ⟨n, hn⟩ : ∃ n, n = Go.bits .and .i64 (rd l i) 1048575 := ⟨_, rfl⟩
      rw [← hn] at h0 h1
      have h3 : Int.tdiv n 3 = n / 3 := Int.tdiv_eq_ediv_of_nonneg h0
      have h4 : Int.tdiv n 999 = n / 999 := Int.tdiv_eq_ediv_of_nonneg h0
      have w3 : wrap64 (n / 3) = n / 3 := w64 (by omega) (by omega)
      have h5 : Int.tmod (n / 3) 9 = (n / 3) % 9 := Int.tmod_eq_emod_of_nonneg (by omega)
      obtain ⟨a8, ha8⟩ : ∃ a8 : ByteArray, a8 = ⟨#[97, 98, 99, 100, 101, 102, 103, 104]⟩ := ⟨_, rfl⟩
      have z8 : a8.size = 8 := by rw [ha8]; rfl
      have x8 : (a8.extract 0 (((n / 3) % 9 : Int)).toNat).size ≤ 40 := by rw [ByteArray.size_extract]; omega
      obtain ⟨t8, ht8, hE8⟩ := key _ x8
      by_cases cm : Int.tmod n 3 = 0
      · refine ⟨t8, ht8, hop ?_⟩
        refine Ev.step (fun k => abugidaref24_Made.j1.eq_2 ..) ?_
        rw [← hn, ← ha8]
        refine evI rfl ?_
        refine evI (by omega) ?_
        refine evI (by omega) ?_
        refine evI cm ?_
        rw [h3, w3, h5]
        clear w3
        refine evI (by omega) ?_
        refine evI (by omega) ?_
        refine evI (by omega) ?_
        exact hE8
      · by_cases cb : (b.size : Int) = 0
        · refine ⟨t8, ht8, hop ?_⟩
          refine Ev.step (fun k => abugidaref24_Made.j1.eq_2 ..) ?_
          rw [← hn, ← ha8]
          refine evI rfl ?_
          refine evI (by omega) ?_
          refine evI (by omega) ?_
          refine evN cm ?_
          refine evI cb ?_
          rw [h3, w3, h5]
          clear w3
          refine evI (by omega) ?_
          refine evI (by omega) ?_
          refine evI (by omega) ?_
          exact hE8
        · have h6 : Int.tmod (n / 3) (b.size : Int) = (n / 3) % (b.size : Int) := Int.tmod_eq_emod_of_nonneg (by omega)
          have b0 : 0 ≤ (n / 3) % (b.size : Int) := Int.emod_nonneg _ cb
          have b1 : (n / 3) % (b.size : Int) < (b.size : Int) := Int.emod_lt_of_pos _ (by omega)
          obtain ⟨fr, hfr⟩ : ∃ fr, fr = (n / 3) % (b.size : Int) := ⟨_, rfl⟩
          rw [← hfr] at h6 b0 b1
          obtain ⟨m, hm⟩ : ∃ m, m = (n / 999) % 30 := ⟨_, rfl⟩
          have m0 : 0 ≤ m ∧ m < 30 := by omega
          obtain ⟨e, he⟩ : ∃ e, e = mn (b.size : Int) (fr + 1 + m) := ⟨_, rfl⟩
          have e0 : fr ≤ e ∧ e ≤ (b.size : Int) ∧ e - fr ≤ 30 := by rw [he]; unfold mn; split <;> omega
          have xb : (b.extract fr.toNat e.toNat).size ≤ 40 := by rw [ByteArray.size_extract]; omega
          obtain ⟨t, ht, hE⟩ := key _ xb
          refine ⟨t, ht, hop ?_⟩
          refine Ev.step (fun k => abugidaref24_Made.j1.eq_2 ..) ?_
          rw [← hn]
          refine evI rfl ?_
          refine evI (by omega) ?_
          refine evI (by omega) ?_
          refine evN cm ?_
          refine evN cb ?_
          rw [h3, w3, h6, h4]
          clear w3
          rw [w64 (x := n / 999) (by omega) (by omega), w64 (x := fr + 1) (by omega) (by omega), show Int.tmod (n / 999) 30 = m by rw [hm]; exact Int.tmod_eq_emod_of_nonneg (by omega), w64 (x := fr + 1 + m) (by omega) (by omega), ← he]
          refine evI (by omega) ?_
          refine evI (by omega) ?_
          refine evI (by omega) ?_
          refine evI (by omega) ?_
          exact hE
    · refine ⟨acc, by omega, ?_⟩
      refine Ev.step (fun k => abugidaref24_Made.l0.eq_2 ..) ?_
      refine evN (by omega) ?_
      refine Ev.step (fun k => abugidaref24_Made.j1.eq_2 ..) ?_
      exact evN Bool.false_ne_true (Ev.now _)
theorem target_ev (a : ByteArray) (l : List Int) : ∃ t : ByteArray, t.size ≤ 480 ∧ Ev (fun k => abugidalaw24_Case_target.f k a l) t := by
  obtain ⟨t, h1, h2⟩ := Made_loop (cut200 a) (cut200_size a) l 12 0 ⟨#[]⟩ rfl (by omega) (by decide)
  refine ⟨t, h1, ?_⟩
  unfold abugidalaw24_Case_target.f
  refine Ev.bind (base_ev a l) ?_
  exact Ev.bind (a := t) h2 (Ev.now _)
end Go.Proofs.Ytjjpiedcdcdejaa.Pure
