/- Lists and strings: what is written. Plain law. -/
import Derived.Test.YtibdgpnedlpdbaaGwD
set_option linter.unusedVariables false
set_option linter.unusedSimpArgs false
namespace Go.Proofs.Ytibdgpnedlpdbaa.Pure
open Go.RowKit Go.Proofs.Ytibdgpnedlpdbaa.Pb Go.Proofs.YtibdgpnedlpdbaaW.PrintWords Go.Proofs.YtibdgpnedlpdbaaW.PrintLast Go.Proofs.YtibdgpnedlpdbaaW.PrintMore Go.Proofs.Ytibdgpnedlpdbaa.Gw
theorem rd_some' {l : List ByteArray} {i : Nat} {s : ByteArray} (h : l[i]? = some s) : rdOf ByteArray.empty l (i : Int) = s := by
  simp [rdOf, List.getD_eq_getElem?_getD, h]
theorem rdi_some {l : List Int} {i : Nat} {s : Int} (h : l[i]? = some s) : rd l (i : Int) = s := by
  simp [rd, List.getD_eq_getElem?_getD, h]
theorem get_some {α : Type} {l : List α} {i : Nat} (h : i < l.length) : ∃ s, l[i]? = some s := ⟨l[i], List.getElem?_eq_getElem h⟩
def cut200 (s : ByteArray) : ByteArray := s.extract 0 (min s.size 200)
def short20 (l : List ByteArray) : List ByteArray := (l.take 20).map cut200
theorem short20_len (l : List ByteArray) : (short20 l).length ≤ 20 := by simp [short20]; omega
theorem short20_mem (l : List ByteArray) : ∀ s ∈ short20 l, s.size ≤ 200 := by
  intro s hs
  simp only [short20, List.mem_map] at hs
  obtain ⟨t, _, rfl⟩ := hs
  simp [cut200, ByteArray.size_extract]
  omega
theorem short_loop (l : List ByteArray) (hl : l.length ≤ 9223372036854775807) (d : Nat) : ∀ i : Nat, 20 - i = d → i ≤ 20 → i ≤ l.length →
    Ev (fun k => abugidalaw02_short.l0 k l ((l.take i).map cut200) i) (short20 l) := by
  induction d with
  | zero =>
    intro i hd h20 hi
    obtain rfl : i = 20 := by omega
    refine Ev.step (fun k => abugidalaw02_short.l0.eq_2 ..) ?_
    by_cases h : ((20 : Nat) : Int) < (l.length : Int)
    · refine evI h ?_
      refine evN (by omega) ?_
      exact Ev.now _
    · refine evN h ?_
      exact Ev.now _
  | succ d ih =>
    intro i hd h20 hi
    refine Ev.step (fun k => abugidalaw02_short.l0.eq_2 ..) ?_
    by_cases h : (i : Int) < (l.length : Int)
    · obtain ⟨s, hs⟩ := get_some (l := l) (i := i) (by omega)
      have hm : mn (s.size : Int) 200 = ((min s.size 200 : Nat) : Int) := by unfold mn; split <;> omega
      have ht : (l.take (i + 1)).map cut200 = (l.take i).map cut200 ++ [cut200 s] := by
        rw [List.take_add_one, hs]; simp
      refine evI h ?_
      refine evI (by omega) ?_
      refine evI (by omega) ?_
      rw [rd_some' hs, hm]
      refine evI (by omega) ?_
      refine evI (by omega) ?_
      refine evI (by simp; omega) ?_
      rw [show wrap64 ((i : Int) + 1) = ((i + 1 : Nat) : Int) from w64 (by omega) (by omega)]
      have := ih (i + 1) (by omega) (by omega) (by omega)
      rw [ht] at this
      exact this
    · refine evN h ?_
      have e1 : l.take i = l.take 20 := by rw [List.take_of_length_le (by omega), List.take_of_length_le (by omega)]
      rw [e1]
      exact Ev.now _
theorem short_ev (l : List ByteArray) (hl : l.length ≤ 9223372036854775807) : Ev (fun k => abugidalaw02_short.f k l) (short20 l) := short_loop l hl 20 0 rfl (by omega) (by omega)
/-- One behind the other. -/
def join {α : Type} (G : α → ByteArray) (l : List α) (acc : ByteArray) : ByteArray := l.foldl (fun a x => a ++ G x) acc
theorem join_size {α : Type} (G : α → ByteArray) (c : Nat) (l : List α) : ∀ acc, (∀ x ∈ l, (G x).size ≤ c) → (join G l acc).size ≤ acc.size + l.length * c := by
  induction l with
  | nil => intro acc _; simp [join]
  | cons x l ih =>
    intro acc h
    have := ih (acc ++ G x) (fun y hy => h y (List.mem_cons_of_mem _ hy))
    have hx := h x (List.mem_cons_self ..)
    rw [ByteArray.size_append] at this
    show (join G l (acc ++ G x)).size ≤ _
    rw [List.length_cons, Nat.succ_mul]
    omega
theorem cat_ev {α : Type} (g : Nat → α → Option ByteArray) (G : α → ByteArray) (c : Nat) (l : List α) : ∀ acc : ByteArray, (∀ x ∈ l, Ev (fun k => g k x) (G x)) → (∀ x ∈ l, (G x).size ≤ c) → acc.size + l.length * c ≤ 140737488355328 →
    Ev (fun k => cat (g k) l acc.data.toList) (join G l acc).data.toList := by
  induction l with
  | nil => intro acc _ _ _; exact Ev.now _
  | cons x l ih =>
    intro acc he hs hz
    have hx := hs x (List.mem_cons_self ..)
    rw [List.length_cons, Nat.succ_mul] at hz
    refine Ev.congr (fun k => by unfold cat; rfl) ?_
    refine Ev.bind (he x (List.mem_cons_self ..)) ?_
    refine evI (by rw [Array.length_toList]; have : acc.data.size = acc.size := rfl; omega) ?_
    have := ih (acc ++ G x) (fun y hy => he y (List.mem_cons_of_mem _ hy)) (fun y hy => hs y (List.mem_cons_of_mem _ hy)) (by rw [ByteArray.size_append]; omega)
    rw [ByteArray.data_append, Array.toList_append] at this
    exact this
theorem listF_ev {α : Type} (hd : Nat → Int → Option ByteArray) (g : Nat → α → Option ByteArray) (H : ByteArray) (G : α → ByteArray) (c : Nat) (l : List α) (hh : Ev (fun k => hd k l.length) H) (he : ∀ x ∈ l, Ev (fun k => g k x) (G x)) (hs : ∀ x ∈ l, (G x).size ≤ c) (hz : H.size + l.length * c ≤ 140737488355328) :
    Ev (fun k => listF (hd k) (g k) l) (join G l H) := by
  unfold listF
  refine Ev.bind hh ?_
  refine evI (by omega) ?_
  refine Ev.bind (cat_ev g G c l H he hs hz) ?_
  exact Ev.now _
def TextB (s : ByteArray) : ByteArray := IntB s.size ++ s
theorem IntB_small (n : Int) (h0 : -9223372036854775808 ≤ n) (h1 : n ≤ 9223372036854775807) : (IntB n).size ≤ 10 := by rw [IntB_size]; exact vb_len10 (zig_lt h0 h1)
theorem TextB_size (s : ByteArray) (h : s.size ≤ 9000) : (TextB s).size ≤ 10 + s.size := by
  have := IntB_small (s.size : Int) (by omega) (by omega)
  unfold TextB
  rw [ByteArray.size_append]
  omega
theorem wire_Text_ev (s : ByteArray) (h : s.size ≤ 9000) : Ev (fun k => wire_Text.f k s) (TextB s) := by
  have := IntB_small (s.size : Int) (by omega) (by omega)
  unfold wire_Text.f
  refine Ev.bind (wire_Int_ev s.size (by omega) (by omega)) ?_
  refine evI (by omega) ?_
  exact Ev.now _
theorem ref_Text_ev (s : ByteArray) (h : s.size ≤ 9000) : Ev (fun k => abugidaref02_Text.f k s) (TextB s) := by
  have := IntB_small (s.size : Int) (by omega) (by omega)
  unfold abugidaref02_Text.f
  refine Ev.bind (ref_Int_ev s.size (by omega) (by omega)) ?_
  refine evI (by omega) ?_
  exact Ev.now _
def IntsB (l : List Int) : ByteArray := join IntB l (IntB l.length)
def TextsB (l : List ByteArray) : ByteArray := join TextB l (IntB l.length)
def Ok64 (l : List Int) : Prop := ∀ x ∈ l, -9223372036854775808 ≤ x ∧ x ≤ 9223372036854775807
theorem wire_Ints_ev (l : List Int) (hl : l.length ≤ 1000) (h : Ok64 l) : Ev (fun k => wire_Ints.f k l) (IntsB l) := by
  have := IntB_small (l.length : Int) (by omega) (by omega)
  exact listF_ev (fun k => wire_Int.f k) (fun k => wire_Int.f k) _ IntB 10 l (wire_Int_ev l.length (by omega) (by omega)) (fun x hx => wire_Int_ev x (h x hx).1 (h x hx).2) (fun x hx => IntB_small x (h x hx).1 (h x hx).2) (by omega)
theorem wire_Texts_ev (l : List ByteArray) (hl : l.length ≤ 1000) (h : ∀ s ∈ l, s.size ≤ 9000) : Ev (fun k => wire_Texts.f k l) (TextsB l) := by
  have := IntB_small (l.length : Int) (by omega) (by omega)
  exact listF_ev (fun k => wire_Int.f k) (fun k => wire_Text.f k) _ TextB 9010 l (wire_Int_ev l.length (by omega) (by omega)) (fun x hx => wire_Text_ev x (h x hx)) (fun x hx => Nat.le_trans (TextB_size x (h x hx)) (by have := h x hx; omega)) (by omega)
theorem join_snoc {α : Type} (G : α → ByteArray) (l : List α) (i : Nat) (x : α) (h : l[i]? = some x) (acc : ByteArray) : join G (l.take (i + 1)) acc = join G (l.take i) acc ++ G x := by
  unfold join
  rw [List.take_add_one, h]
  simp
theorem join_take_size {α : Type} (G : α → ByteArray) (c : Nat) (l : List α) (i : Nat) (acc : ByteArray) (h : ∀ x ∈ l, (G x).size ≤ c) (hi : i ≤ l.length) : (join G (l.take i) acc).size ≤ acc.size + i * c := by
  have := join_size G c (l.take i) acc (fun x hx => h x (List.mem_of_mem_take hx))
  rw [List.length_take, Nat.min_eq_left hi] at this
  exact this
theorem ref_Ints_loop (l : List Int) (hl : l.length ≤ 1000) (h : Ok64 l) (H : ByteArray) (hH : H.size ≤ 10) (d : Nat) : ∀ i : Nat, l.length - i = d → i ≤ l.length → Ev (fun k => abugidaref02_Ints.l0 k l (join IntB (l.take i) H) i) (join IntB l H) := by
  induction d with
  | zero =>
    intro i hd hi
    refine Ev.step (fun k => abugidaref02_Ints.l0.eq_2 ..) ?_
    refine evN (by omega) ?_
    rw [List.take_of_length_le (by omega)]
    exact Ev.now _
  | succ d ih =>
    intro i hd hi
    obtain ⟨x, hx⟩ := get_some (l := l) (i := i) (by omega)
    obtain ⟨x0, x1⟩ := h x (List.mem_of_getElem? hx)
    have hz := join_take_size IntB 10 l i H (fun y hy => IntB_small y (h y hy).1 (h y hy).2) hi
    have hs := IntB_small x x0 x1
    refine Ev.step (fun k => abugidaref02_Ints.l0.eq_2 ..) ?_
    refine evI (by omega) ?_
    refine evI (by omega) ?_
    rw [rdi_some hx]
    refine Ev.bind (ref_Int_ev x x0 x1) ?_
    refine evI (by omega) ?_
    rw [show wrap64 ((i : Int) + 1) = ((i + 1 : Nat) : Int) from w64 (by omega) (by omega), ← join_snoc IntB l i x hx H]
    exact ih (i + 1) (by omega) (by omega)
theorem ref_Ints_ev (l : List Int) (hl : l.length ≤ 1000) (h : Ok64 l) : Ev (fun k => abugidaref02_Ints.f k l) (IntsB l) := by
  unfold abugidaref02_Ints.f
  refine Ev.bind (ref_Int_ev l.length (by omega) (by omega)) ?_
  exact ref_Ints_loop l hl h _ (IntB_small (l.length : Int) (by omega) (by omega)) _ 0 rfl (by omega)
theorem ref_Texts_loop (l : List ByteArray) (hl : l.length ≤ 1000) (h : ∀ s ∈ l, s.size ≤ 9000) (H : ByteArray) (hH : H.size ≤ 10) (d : Nat) : ∀ i : Nat, l.length - i = d → i ≤ l.length → Ev (fun k => abugidaref02_Texts.l0 k l (join TextB (l.take i) H) i) (join TextB l H) := by
  induction d with
  | zero =>
    intro i hd hi
    refine Ev.step (fun k => abugidaref02_Texts.l0.eq_2 ..) ?_
    refine evN (by omega) ?_
    rw [List.take_of_length_le (by omega)]
    exact Ev.now _
  | succ d ih =>
    intro i hd hi
    obtain ⟨x, hx⟩ := get_some (l := l) (i := i) (by omega)
    have x0 := h x (List.mem_of_getElem? hx)
    have hz := join_take_size TextB 9010 l i H (fun y hy => Nat.le_trans (TextB_size y (h y hy)) (by have := h y hy; omega)) hi
    have hs := TextB_size x x0
    refine Ev.step (fun k => abugidaref02_Texts.l0.eq_2 ..) ?_
    refine evI (by omega) ?_
    refine evI (by omega) ?_
    rw [rd_some' hx]
    refine Ev.bind (ref_Text_ev x x0) ?_
    refine evI (by omega) ?_
    rw [show wrap64 ((i : Int) + 1) = ((i + 1 : Nat) : Int) from w64 (by omega) (by omega), ← join_snoc TextB l i x hx H]
    exact ih (i + 1) (by omega) (by omega)
theorem ref_Texts_ev (l : List ByteArray) (hl : l.length ≤ 1000) (h : ∀ s ∈ l, s.size ≤ 9000) : Ev (fun k => abugidaref02_Texts.f k l) (TextsB l) := by
  unfold abugidaref02_Texts.f
  refine Ev.bind (ref_Int_ev l.length (by omega) (by omega)) ?_
  exact ref_Texts_loop l hl h _ (IntB_small (l.length : Int) (by omega) (by omega)) _ 0 rfl (by omega)
end Go.Proofs.Ytibdgpnedlpdbaa.Pure
