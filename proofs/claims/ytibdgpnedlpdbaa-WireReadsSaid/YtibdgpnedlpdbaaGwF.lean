/- Lists and strings are read again as they were written. Plain law. -/
import Derived.Test.YtibdgpnedlpdbaaGwE
set_option linter.unusedVariables false
set_option linter.unusedSimpArgs false
namespace Go.Proofs.Ytibdgpnedlpdbaa.Pure
open Go.RowKit Go.Proofs.Ytibdgpnedlpdbaa.Pb Go.Proofs.YtibdgpnedlpdbaaW.PrintWords Go.Proofs.YtibdgpnedlpdbaaW.PrintLast Go.Proofs.YtibdgpnedlpdbaaW.PrintMore Go.Proofs.Ytibdgpnedlpdbaa.Gw
theorem length_ev (n : Nat) (rest : ByteArray) (h : n ≤ rest.size) (hr : rest.size ≤ 1000000000) : Ev (fun k => wire_Reader_length.f k (IntB n ++ rest) false) ((n : Int), rest, false) := by
  unfold wire_Reader_length.f
  refine Ev.bind (Reader_Int_ev (n : Int) (by omega) (by omega) rest) ?_
  refine evN (by show ¬ (n : Int) < 0; omega) ?_
  refine Ev.bind (a := ((rest.size : Int), rest, false)) (Ev.now _) ?_
  refine evN (by show ¬ (n : Int) > (rest.size : Int); omega) ?_
  exact Ev.now _
theorem extract_left (a b : ByteArray) : (a ++ b).extract 0 a.size = a := by
  apply ByteArray.ext
  have h : a.data.extract 0 a.size = a.data := by rw [show a.size = a.data.size from rfl]; simp
  have h2 : b.data.extract 0 (a.size - a.data.size) = #[] := by rw [show a.size = a.data.size from rfl]; simp
  simp [ByteArray.data_extract, h, h2]
theorem Text_ev (s rest : ByteArray) (hs : s.size ≤ 9000) (hr : rest.size ≤ 100000000) : Ev (fun k => wire_Reader_Text.f k (TextB s ++ rest) false) (s, rest, false) := by
  have e : TextB s ++ rest = IntB s.size ++ (s ++ rest) := by unfold TextB; rw [ByteArray.append_assoc]
  have hz : (s ++ rest).size = s.size + rest.size := ByteArray.size_append
  rw [e]
  unfold wire_Reader_Text.f
  refine Ev.bind (length_ev s.size (s ++ rest) (by omega) (by omega)) ?_
  refine Ev.bind (a := (false, s ++ rest, false)) (Ev.now _) ?_
  refine evN (by simp) ?_
  refine evI (by show 0 ≤ (s.size : Int); omega) ?_
  refine evI (by show (s.size : Int) ≤ ((s ++ rest).size : Int); omega) ?_
  show Ev (fun _ => some ((s ++ rest).extract 0 (s.size : Int).toNat, (s ++ rest).extract (s.size : Int).toNat (s ++ rest).size, false)) _
  rw [Int.toNat_natCast, extract_left, extract_app]
  exact Ev.now _
theorem join_cons {α : Type} (G : α → ByteArray) (l : List α) : ∀ acc, join G l acc = acc ++ join G l ByteArray.empty := by
  induction l with
  | nil => intro acc; simp [join]
  | cons x l ih =>
    intro acc
    show join G l (acc ++ G x) = acc ++ join G l (ByteArray.empty ++ G x)
    rw [ih (acc ++ G x), ih (ByteArray.empty ++ G x), ByteArray.empty_append, ByteArray.append_assoc]
theorem readL_ev {α : Type} (nx : Nat → ByteArray → Bool → Option (α × ByteArray × Bool)) (lim : Nat) (G : α → ByteArray) (c : Nat) (hlim : 2000 ≤ lim) (l : List α) : ∀ (acc : List α) (rest : ByteArray),
    (∀ x ∈ l, ∀ r : ByteArray, r.size ≤ 10000000 → Ev (fun k => nx k (G x ++ r) false) (x, r, false)) → (∀ x ∈ l, (G x).size ≤ c) → l.length * c + rest.size ≤ 10000000 → acc.length + l.length ≤ 1000 →
    Ev (fun k => readL (nx k) lim l.length acc (join G l ByteArray.empty ++ rest) false) (acc ++ l, rest, false) := by
  induction l with
  | nil =>
    intro acc rest _ _ _ _
    rw [List.append_nil, show join G ([] : List α) ByteArray.empty ++ rest = rest from ByteArray.empty_append]
    exact Ev.now _
  | cons x l ih =>
    intro acc rest hx hs hz hl
    have hsz := join_size G c l ByteArray.empty (fun y hy => hs y (List.mem_cons_of_mem _ hy))
    rw [List.length_cons, Nat.succ_mul] at hz
    rw [List.length_cons] at hl
    have e : join G (x :: l) ByteArray.empty ++ rest = G x ++ (join G l ByteArray.empty ++ rest) := by
      show join G l (ByteArray.empty ++ G x) ++ rest = _
      rw [join_cons, ByteArray.empty_append, ByteArray.append_assoc]
    rw [e, List.length_cons]
    refine Ev.congr (fun k => by unfold readL; rfl) ?_
    have h0 : ByteArray.empty.size = 0 := rfl
    refine Ev.bind (hx x (List.mem_cons_self ..) _ (by rw [ByteArray.size_append]; omega)) ?_
    refine evN (by simp) ?_
    refine evI (by omega) ?_
    have := ih (acc ++ [x]) rest (fun y hy => hx y (List.mem_cons_of_mem _ hy)) (fun y hy => hs y (List.mem_cons_of_mem _ hy)) (by omega) (by simp; omega)
    rw [List.append_assoc] at this
    exact this
theorem IntB_pos (n : Int) : 1 ≤ (IntB n).size := by rw [IntB_size]; exact vb_pos _
theorem join_ge {α : Type} (G : α → ByteArray) (l : List α) (h : ∀ x ∈ l, 1 ≤ (G x).size) : ∀ acc, acc.size + l.length ≤ (join G l acc).size := by
  induction l with
  | nil => intro acc; simp [join]
  | cons x l ih =>
    intro acc
    have h1 := ih (fun y hy => h y (List.mem_cons_of_mem _ hy)) (acc ++ G x)
    have h2 := h x (List.mem_cons_self ..)
    rw [ByteArray.size_append] at h1
    show _ ≤ (join G l (acc ++ G x)).size
    rw [List.length_cons]
    omega
theorem Ints_ev (l : List Int) (rest : ByteArray) (hl : l.length ≤ 100) (h : Ok64 l) (hr : rest.size ≤ 1000000) : Ev (fun k => wire_Reader_Ints.f k (IntsB l ++ rest) false) (l, rest, false) := by
  have e : IntsB l ++ rest = IntB l.length ++ (join IntB l ByteArray.empty ++ rest) := by unfold IntsB; rw [join_cons, ByteArray.append_assoc]
  have hz := join_size IntB 10 l ByteArray.empty (fun x hx => IntB_small x (h x hx).1 (h x hx).2)
  have hg := join_ge IntB l (fun x _ => IntB_pos x) ByteArray.empty
  have h0 : ByteArray.empty.size = 0 := rfl
  rw [e]
  unfold wire_Reader_Ints.f
  refine Ev.bind (length_ev l.length _ (by rw [ByteArray.size_append]; omega) (by rw [ByteArray.size_append]; omega)) ?_
  refine evI (by show (l.length : Int) ≤ 9223372036854775807; omega) ?_
  show Ev (fun k => readL (wire_Reader_Int.f k) 17592186044416 (l.length : Int).toNat [] _ false) _
  rw [Int.toNat_natCast]
  exact readL_ev (fun k => wire_Reader_Int.f k) 17592186044416 IntB 10 (by decide) l [] rest (fun x hx r _ => Reader_Int_ev x (h x hx).1 (h x hx).2 r) (fun x hx => IntB_small x (h x hx).1 (h x hx).2) (by omega) (by simp; omega)
theorem Texts_ev (l : List ByteArray) (rest : ByteArray) (hl : l.length ≤ 100) (h : ∀ s ∈ l, s.size ≤ 9000) (hr : rest.size ≤ 1000000) : Ev (fun k => wire_Reader_Texts.f k (TextsB l ++ rest) false) (l, rest, false) := by
  have e : TextsB l ++ rest = IntB l.length ++ (join TextB l ByteArray.empty ++ rest) := by unfold TextsB; rw [join_cons, ByteArray.append_assoc]
  have hc : ∀ x ∈ l, (TextB x).size ≤ 9010 := fun x hx => Nat.le_trans (TextB_size x (h x hx)) (by have := h x hx; omega)
  have hz := join_size TextB 9010 l ByteArray.empty hc
  have hg := join_ge TextB l (fun x _ => by unfold TextB; rw [ByteArray.size_append]; have := IntB_pos x.size; omega) ByteArray.empty
  have h0 : ByteArray.empty.size = 0 := rfl
  rw [e]
  unfold wire_Reader_Texts.f
  refine Ev.bind (length_ev l.length _ (by rw [ByteArray.size_append]; omega) (by rw [ByteArray.size_append]; omega)) ?_
  refine evI (by show (l.length : Int) ≤ 9223372036854775807; omega) ?_
  show Ev (fun k => readL (wire_Reader_Text.f k) 8796093022208 (l.length : Int).toNat [] _ false) _
  rw [Int.toNat_natCast]
  exact readL_ev (fun k => wire_Reader_Text.f k) 8796093022208 TextB 9010 (by decide) l [] rest (fun x hx r hr => Text_ev x r (h x hx) (by omega)) hc (by omega) (by simp; omega)
theorem IntsB_size (l : List Int) (hl : l.length ≤ 1000) (h : Ok64 l) : (IntsB l).size ≤ 10 + l.length * 10 := by
  have h1 := IntB_small (l.length : Int) (by omega) (by omega)
  have := join_size IntB 10 l (IntB l.length) (fun x hx => IntB_small x (h x hx).1 (h x hx).2)
  unfold IntsB
  omega
theorem TextsB_size (l : List ByteArray) (hl : l.length ≤ 1000) (h : ∀ s ∈ l, s.size ≤ 9000) : (TextsB l).size ≤ 10 + l.length * 9010 := by
  have h1 := IntB_small (l.length : Int) (by omega) (by omega)
  have := join_size TextB 9010 l (IntB l.length) (fun x hx => Nat.le_trans (TextB_size x (h x hx)) (by have := h x hx; omega))
  unfold TextsB
  omega
end Go.Proofs.Ytibdgpnedlpdbaa.Pure
