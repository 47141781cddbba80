/- WireCut: without some bytes at its end nothing can be read, and the reader stays bad. No condition beside the row's own. -/
import Derived.Test.YtibdgpnedlpdbaaGwF
import Derived.Test.YtibdgpnedlpdbaaPbx8
set_option linter.unusedVariables false
set_option linter.unusedSimpArgs false
namespace Go.Proofs.Ytibdgpnedlpdbaa.Pure
open Go.RowKit Go.Proofs.Ytibdgpnedlpdbaa.Pb Go.Proofs.YtibdgpnedlpdbaaW.PrintWords Go.Proofs.YtibdgpnedlpdbaaW.PrintLast Go.Proofs.YtibdgpnedlpdbaaW.PrintMore Go.Proofs.Ytibdgpnedlpdbaa.Gw
theorem Int_bad (q : ByteArray) : Ev (fun k => wire_Reader_Int.f k q true) (0, q, true) := by
  unfold wire_Reader_Int.f
  refine Ev.step (fun k => wire_Reader_Int.l0.eq_2 ..) ?_
  refine Ev.bind (a := (0, q, true)) (Ev.now _) ?_
  refine evN (by show ¬ (0 : Int) < 0; decide) ?_
  refine Ev.step (fun k => wire_Reader_Int.j1.eq_2 ..) ?_
  refine evN (by decide) ?_
  exact Ev.bind (a := (q, true)) (Ev.now _) (Ev.now _)
theorem length_of_bad (s q : ByteArray) (b : Bool) (h : Ev (fun k => wire_Reader_Int.f k s b) (0, q, true)) : Ev (fun k => wire_Reader_length.f k s b) (0, q, true) := by
  unfold wire_Reader_length.f
  refine Ev.bind h ?_
  refine evN (by show ¬ (0 : Int) < 0; decide) ?_
  refine Ev.bind (a := (0, q, true)) (Ev.now _) ?_
  refine evN (by show ¬ (0 : Int) > 0; decide) ?_
  exact Ev.now _
theorem Text_of_bad (s q : ByteArray) (b : Bool) (h : Ev (fun k => wire_Reader_length.f k s b) (0, q, true)) : Ev (fun k => wire_Reader_Text.f k s b) (⟨#[]⟩, q, true) := by
  unfold wire_Reader_Text.f
  refine Ev.bind h ?_
  refine Ev.bind (a := (true, q, true)) (Ev.now _) ?_
  refine evI rfl ?_
  exact Ev.now _
theorem Int_short (s : ByteArray) (hs : s.size ≤ 10) (hb : ∀ j : Nat, j < s.size → bt s (j : Int) ≥ 128) (d : Nat) : ∀ (i : Nat) (x : Int), s.size - i = d → i ≤ s.size → Ev (fun k => wire_Reader_Int.l0 k x (i : Int) s false) (0, s, true) := by
  induction d with
  | zero =>
    intro i x hd hi
    refine Ev.step (fun k => wire_Reader_Int.l0.eq_2 ..) ?_
    refine Ev.bind (a := ((s.size : Int), s, false)) (Ev.now _) ?_
    refine evN (by show ¬ (i : Int) < (s.size : Int); omega) ?_
    refine Ev.step (fun k => wire_Reader_Int.j1.eq_2 ..) ?_
    refine evN (by decide) ?_
    exact Ev.bind (a := (s, true)) (Ev.now _) (Ev.now _)
  | succ d ih =>
    intro i x hd hi
    refine Ev.step (fun k => wire_Reader_Int.l0.eq_2 ..) ?_
    refine Ev.bind (a := ((s.size : Int), s, false)) (Ev.now _) ?_
    refine evI (by show (i : Int) < (s.size : Int); omega) ?_
    rw [show decide ((i : Int) < 10) = true from decide_eq_true (by omega)]
    refine Ev.step (fun k => wire_Reader_Int.j1.eq_2 ..) ?_
    refine evI rfl ?_
    refine evI (by omega) ?_
    refine evI (by show (i : Int) < (s.size : Int); omega) ?_
    refine evI (by rw [show wrap64 (7 * (i : Int)) = 7 * (i : Int) from w64 (by omega) (by omega)]; omega) ?_
    refine evI (hb i (by omega)) ?_
    rw [show wrap64 ((i : Int) + 1) = ((i + 1 : Nat) : Int) from w64 (by omega) (by omega)]
    exact ih (i + 1) _ (by omega) (by omega)
theorem vb_init (c : Nat) : ∀ (j m : Nat), (vb c)[j]? = some m → j + 1 < (vb c).length → 128 ≤ m := by
  induction c using Nat.strongRecOn with
  | _ c ih =>
    intro j m hj hl
    by_cases h : c < 128
    · rw [vb_lo h] at hl; simp at hl
    · rw [vb_hi h] at hj hl
      cases j with
      | zero => simp at hj; omega
      | succ j => exact ih (c / 128) (by omega) j m (by simpa using hj) (by simpa using hl)
theorem ext_lo (a b : ByteArray) (m : Nat) (h : m ≤ a.size) : (a ++ b).extract 0 m = a.extract 0 m := by
  apply ByteArray.ext
  have h2 : b.data.extract 0 (m - a.data.size) = #[] := by rw [show m - a.data.size = 0 from by have : a.data.size = a.size := rfl; omega]; simp
  simp [ByteArray.data_extract, h2]
  exact .inl (by omega)
theorem ext_hi (a b : ByteArray) (m : Nat) (h : a.size ≤ m) : (a ++ b).extract 0 m = a ++ b.extract 0 (m - a.size) := by
  apply ByteArray.ext
  have h2 : a.data.extract 0 m = a.data := Array.extract_eq_self_of_le (by have : a.data.size = a.size := rfl; omega)
  simp [ByteArray.data_extract, h2, show a.data.size = a.size from rfl]
theorem Int_cut (n : Int) (h0 : -9223372036854775808 ≤ n) (h1 : n ≤ 9223372036854775807) (m : Nat) (hm : m < (IntB n).size) : Ev (fun k => wire_Reader_Int.f k ((IntB n).extract 0 m) false) (0, (IntB n).extract 0 m, true) := by
  have hz := IntB_small n h0 h1
  have hsz : ((IntB n).extract 0 m).size = m := by rw [ByteArray.size_extract]; omega
  refine Int_short _ (by omega) ?_ _ 0 0 rfl (by omega)
  intro j hj
  rw [hsz] at hj
  have hvl : j + 1 < (vb (zig n)).length := by rw [← IntB_size]; omega
  obtain ⟨x, hx⟩ := get_some (l := vb (zig n)) (i := j) (by omega)
  have e1 : bt ((IntB n).extract 0 m) (j : Int) = bt (IntB n ++ ByteArray.empty) (j : Int) := by
    rw [bt_get _ j (by omega), bt_get _ j (by rw [ByteArray.append_empty]; omega)]
    simp [ByteArray.getElem_extract]
  have e2 := nums_get (vb (zig n)) (vb_lt _) ByteArray.empty j x hx
  rw [e1, show bt (IntB n ++ ByteArray.empty) (j : Int) = (x : Int) from e2]
  have := vb_init _ j x hx hvl
  omega
theorem size_cut (a : ByteArray) (m : Nat) (h : m ≤ a.size) : (a.extract 0 m).size = m := by rw [ByteArray.size_extract]; omega
theorem length_cut (n : Nat) (q : ByteArray) (h : q.size < n) (hn : n ≤ 1000000000) : Ev (fun k => wire_Reader_length.f k (IntB n ++ q) false) (0, q, true) := by
  unfold wire_Reader_length.f
  refine Ev.bind (Reader_Int_ev (n : Int) (by omega) (by omega) q) ?_
  refine evN (by show ¬ (n : Int) < 0; omega) ?_
  refine Ev.bind (a := ((q.size : Int), q, false)) (Ev.now _) ?_
  refine evI (by show (n : Int) > (q.size : Int); omega) ?_
  exact Ev.bind (a := (q, true)) (Ev.now _) (Ev.now _)
theorem Text_cut (s : ByteArray) (hs : s.size ≤ 9000) (m : Nat) (hm : m < (TextB s).size) : ∃ q, Ev (fun k => wire_Reader_Text.f k ((TextB s).extract 0 m) false) (⟨#[]⟩, q, true) := by
  unfold TextB at hm ⊢
  rw [ByteArray.size_append] at hm
  by_cases h : m < (IntB s.size).size
  · rw [ext_lo _ _ _ (by omega)]
    exact ⟨_, Text_of_bad _ _ _ (length_of_bad _ _ _ (Int_cut s.size (by omega) (by omega) m h))⟩
  · rw [ext_hi _ _ _ (by omega)]
    exact ⟨_, Text_of_bad _ _ _ (length_cut s.size _ (by rw [size_cut _ _ (by omega)]; omega) (by omega))⟩
theorem readL_cut {α : Type} (nx : Nat → ByteArray → Bool → Option (α × ByteArray × Bool)) (lim : Nat) (G : α → ByteArray) (hlim : 2000 ≤ lim) (l : List α) : ∀ (acc : List α) (m : Nat),
    (∀ x ∈ l, ∀ r : ByteArray, r.size ≤ 10000000 → Ev (fun k => nx k (G x ++ r) false) (x, r, false)) → (∀ x ∈ l, ∀ m, m < (G x).size → ∃ y q, Ev (fun k => nx k ((G x).extract 0 m) false) (y, q, true)) →
    (join G l ByteArray.empty).size ≤ 10000000 → m < (join G l ByteArray.empty).size → acc.length + l.length ≤ 1000 →
    ∃ q, Ev (fun k => readL (nx k) lim l.length acc ((join G l ByteArray.empty).extract 0 m) false) ([], q, true) := by
  induction l with
  | nil => intro acc m _ _ _ h _; exact absurd h (by show ¬ m < 0; omega)
  | cons x l ih =>
    intro acc m hx hc hz hm hl
    have e : join G (x :: l) ByteArray.empty = G x ++ join G l ByteArray.empty := by
      show join G l (ByteArray.empty ++ G x) = _
      rw [join_cons, ByteArray.empty_append]
    rw [e, ByteArray.size_append] at hz hm
    rw [List.length_cons] at hl
    rw [e, List.length_cons]
    by_cases h : m < (G x).size
    · rw [ext_lo _ _ _ (by omega)]
      obtain ⟨y, q, hq⟩ := hc x (List.mem_cons_self ..) m h
      refine ⟨q, Ev.congr (fun k => by unfold readL; rfl) ?_⟩
      refine Ev.bind hq ?_
      exact evI rfl (Ev.now _)
    · rw [ext_hi _ _ _ (by omega)]
      obtain ⟨q, hq⟩ := ih (acc ++ [x]) (m - (G x).size) (fun y hy => hx y (List.mem_cons_of_mem _ hy)) (fun y hy => hc y (List.mem_cons_of_mem _ hy)) (by omega) (by omega) (by simp; omega)
      refine ⟨q, Ev.congr (fun k => by unfold readL; rfl) ?_⟩
      refine Ev.bind (hx x (List.mem_cons_self ..) _ (by rw [size_cut _ _ (by omega)]; omega)) ?_
      refine evN (by simp) ?_
      exact evI (by omega) hq
theorem Ints_cut (l : List Int) (hl : l.length ≤ 100) (h : Ok64 l) (m : Nat) (hm : m < (IntsB l).size) : ∃ q, Ev (fun k => wire_Reader_Ints.f k ((IntsB l).extract 0 m) false) ([], q, true) := by
  have e : IntsB l = IntB l.length ++ join IntB l ByteArray.empty := by unfold IntsB; rw [join_cons]
  have hz := join_size IntB 10 l ByteArray.empty (fun x hx => IntB_small x (h x hx).1 (h x hx).2)
  have h0 : ByteArray.empty.size = 0 := rfl
  rw [e, ByteArray.size_append] at hm
  rw [e]
  unfold wire_Reader_Ints.f
  by_cases hc : m < (IntB l.length).size
  · rw [ext_lo _ _ _ (by omega)]
    refine ⟨(IntB l.length).extract 0 m, Ev.bind (length_of_bad _ _ _ (Int_cut l.length (by omega) (by omega) m hc)) ?_⟩
    exact evI (by show (0 : Int) ≤ 9223372036854775807; decide) (Ev.now _)
  · rw [ext_hi _ _ _ (by omega)]
    have hs := size_cut (join IntB l ByteArray.empty) (m - (IntB l.length).size) (by omega)
    by_cases hq : m - (IntB l.length).size < l.length
    · refine ⟨(join IntB l ByteArray.empty).extract 0 (m - (IntB l.length).size), Ev.bind (length_cut l.length _ (by omega) (by omega)) ?_⟩
      exact evI (by show (0 : Int) ≤ 9223372036854775807; decide) (Ev.now _)
    · obtain ⟨q, hr⟩ := readL_cut (fun k => wire_Reader_Int.f k) 17592186044416 IntB (by decide) l [] (m - (IntB l.length).size) (fun x hx r _ => Reader_Int_ev x (h x hx).1 (h x hx).2 r) (fun x hx m hm => ⟨0, _, Int_cut x (h x hx).1 (h x hx).2 m hm⟩) (by omega) (by omega) (by simp; omega)
      refine ⟨q, Ev.bind (length_ev l.length _ (by omega) (by omega)) ?_⟩
      refine evI (by show (l.length : Int) ≤ 9223372036854775807; omega) ?_
      show Ev (fun k => readL (wire_Reader_Int.f k) 17592186044416 (l.length : Int).toNat [] _ false) _
      rw [Int.toNat_natCast]
      exact hr
theorem Texts_cut (l : List ByteArray) (hl : l.length ≤ 100) (h : ∀ s ∈ l, s.size ≤ 9000) (m : Nat) (hm : m < (TextsB l).size) : ∃ q, Ev (fun k => wire_Reader_Texts.f k ((TextsB l).extract 0 m) false) ([], q, true) := by
  have e : TextsB l = IntB l.length ++ join TextB l ByteArray.empty := by unfold TextsB; rw [join_cons]
  have hz := join_size TextB 9010 l ByteArray.empty (fun x hx => Nat.le_trans (TextB_size x (h x hx)) (by have := h x hx; omega))
  have h0 : ByteArray.empty.size = 0 := rfl
  rw [e, ByteArray.size_append] at hm
  rw [e]
  unfold wire_Reader_Texts.f
  by_cases hc : m < (IntB l.length).size
  · rw [ext_lo _ _ _ (by omega)]
    refine ⟨(IntB l.length).extract 0 m, Ev.bind (length_of_bad _ _ _ (Int_cut l.length (by omega) (by omega) m hc)) ?_⟩
    exact evI (by show (0 : Int) ≤ 9223372036854775807; decide) (Ev.now _)
  · rw [ext_hi _ _ _ (by omega)]
    have hs := size_cut (join TextB l ByteArray.empty) (m - (IntB l.length).size) (by omega)
    by_cases hq : m - (IntB l.length).size < l.length
    · refine ⟨(join TextB l ByteArray.empty).extract 0 (m - (IntB l.length).size), Ev.bind (length_cut l.length _ (by omega) (by omega)) ?_⟩
      exact evI (by show (0 : Int) ≤ 9223372036854775807; decide) (Ev.now _)
    · obtain ⟨q, hr⟩ := readL_cut (fun k => wire_Reader_Text.f k) 8796093022208 TextB (by decide) l [] (m - (IntB l.length).size) (fun x hx r hr => Text_ev x r (h x hx) (by omega)) (fun x hx m hm => by obtain ⟨q, hq⟩ := Text_cut x (h x hx) m hm; exact ⟨_, q, hq⟩) (by omega) (by omega) (by simp; omega)
      refine ⟨q, Ev.bind (length_ev l.length _ (by omega) (by omega)) ?_⟩
      refine evI (by show (l.length : Int) ≤ 9223372036854775807; omega) ?_
      show Ev (fun k => readL (wire_Reader_Text.f k) 8796093022208 (l.length : Int).toNat [] _ false) _
      rw [Int.toNat_natCast]
      exact hr
theorem WireCut (l : List Int) (t : List ByteArray) (c : Int) (hl : l.length ≤ 9223372036854775807) (_ : l.length * 8 ≤ 140737488351232) (hw : ∀ n ∈ l, (Lit.int .i64 n).wf = true) (ht : t.length ≤ 9223372036854775807) (_ : ∀ s ∈ t, s.size ≤ 9223372036854775807) (hc : (Lit.int .u16 c).wf = true) : ∃ k, CutOk k l t c true := by
  have hc2 : 0 ≤ c ∧ c ≤ 65535 := by have h := hc; simp [Lit.wf] at h; exact h
  obtain ⟨n, rfl⟩ : ∃ n : Nat, c = n := ⟨c.toNat, by omega⟩
  have hx : (l.take (min l.length 50)).length ≤ 50 := by simp; omega
  have ho : Ok64 (l.take (min l.length 50)) := fun x hx => i64_range (hw x (List.mem_of_mem_take hx))
  have htl := short20_len t
  have hts : ∀ s ∈ short20 t, s.size ≤ 9000 := fun s h => Nat.le_trans (short20_mem t s h) (by omega)
  have z1 := TextsB_size (short20 t) (by omega) hts
  have z2 := IntsB_size (l.take (min l.length 50)) (by omega) ho
  have p1 : 0 < (IntsB (l.take (min l.length 50))).size := by
    unfold IntsB; have := join_ge IntB (l.take (min l.length 50)) (fun x _ => IntB_pos x) (IntB (l.take (min l.length 50)).length); have := IntB_pos (l.take (min l.length 50)).length; omega
  have p2 : 0 < (TextsB (short20 t)).size := by
    unfold TextsB; have := join_ge TextB (short20 t) (fun x _ => by unfold TextB; rw [ByteArray.size_append]; have := IntB_pos x.size; omega) (IntB (short20 t).length); have := IntB_pos (short20 t).length; omega
  have m1 := Nat.mod_lt n p1
  have m2 := Nat.mod_lt n p2
  obtain ⟨q1, e1⟩ := Ints_cut _ (by omega) ho _ m1
  obtain ⟨q2, e2⟩ := Texts_cut _ (by omega) hts _ m2
  have e3 := Int_bad q1
  have e4 := Text_of_bad q2 q2 true (length_of_bad q2 q2 true (Int_bad q2))
  obtain ⟨K1, k1⟩ := e1
  obtain ⟨K2, k2⟩ := e2
  obtain ⟨K3, k3⟩ := e3
  obtain ⟨K4, k4⟩ := e4
  obtain ⟨K5, k5⟩ := sanity_ev
  obtain ⟨K6, k6⟩ := wire_Ints_ev _ (by omega) ho
  obtain ⟨K7, k7⟩ := short_ev t ht
  obtain ⟨K8, k8⟩ := wire_Texts_ev _ (by omega) hts
  have hwr : wrap64 ((n : Nat) : Int) = n := w64 (by omega) (by omega)
  refine ⟨K1 + K2 + K3 + K4 + K5 + K6 + K7 + K8, rfl, ((min l.length 50 : Nat) : Int), l.take (min l.length 50), IntsB (l.take (min l.length 50)), TextsB (short20 t), short20 t, ((n % (IntsB (l.take (min l.length 50))).size : Nat) : Int), ((n % (TextsB (short20 t)).size : Nat) : Int), q1, q2, q1, q2, ?_⟩
  exact { up := k5 _ (by omega), hj := by split <;> omega, lt_ := rfl, hs := k6 _ (by omega), ht := k7 _ (by omega), hu := k8 _ (by omega), s0 := p1, u0 := p2, h1 := by rw [hwr]; rfl, h2 := by rw [hwr]; rfl, b1 := ⟨by omega, by omega⟩, b2 := ⟨by omega, by omega⟩, r1 := k1 _ (by omega), r2 := k2 _ (by omega), r3 := k3 _ (by omega), r4 := k4 _ (by omega) }
end Go.Proofs.Ytibdgpnedlpdbaa.Pure
