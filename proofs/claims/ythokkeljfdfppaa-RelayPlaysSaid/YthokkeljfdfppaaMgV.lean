/- Several texts of this claim, one behind the other: GwV, GwX. -/
import Derived.Test.YthokkeljfdfppaaMgW
import Derived.Test.YthokkeljfdfppaaMgY
/- Both readers read the same lengths, strings and lists. -/
set_option linter.unusedVariables false
set_option linter.unusedSimpArgs false
namespace Go.Proofs.Ythokkeljfdfppaa.Pure
open Go.RowKit Go.Proofs.Ythokkeljfdfppaa.Pb Go.Proofs.YthokkeljfdfppaaW.PrintWords Go.Proofs.YthokkeljfdfppaaW.PrintLast Go.Proofs.YthokkeljfdfppaaW.PrintMore Go.Proofs.Ythokkeljfdfppaa.Gw
theorem Sim_bad (q s : ByteArray) (i : Int) : Sim q true s i true := ⟨rfl, fun h => by cases h⟩
theorem length_same (s : ByteArray) (hs : s.size ≤ 9000) (q : ByteArray) (b : Bool) (i : Int) (h : Sim q b s i b) :
 ∃ (x : Int) (q2 : ByteArray) (i2 : Int) (b2 : Bool), Ev (fun k => wire_Reader_length.f k q b) (x, q2, b2) ∧ Ev (fun k => abugidaref02_Reader_length.f k s i b) (x, s, i2, b2) ∧ Sim q2 b2 s i2 b2 ∧ 0 ≤ x ∧ x ≤ 9000 ∧ (b2 = false → x ≤ q2.size) ∧ (b2 = true → x = 0) := by
 obtain ⟨x, q2, i2, b2, hp, hr, hs2, hx, hb, hz⟩ := Int_same s hs q b i h
 have pfail : Ev (fun k => (wire_Reader_fail.f q2 b2).bind fun bt122 => some ((0 : Int), bt122.1, bt122.2)) (0, q2, true) := Ev.bind (a := (q2, true)) (Ev.now _) (Ev.now _)
 have rfail : Ev (fun k => (abugidaref02_Reader_fail.f s i2 b2).bind fun bt251 => some ((0 : Int), bt251.1, bt251.2.1, bt251.2.2)) (0, s, i2, true) := Ev.bind (a := (s, i2, true)) (Ev.now _) (Ev.now _)
 by_cases h0 : x < 0
 · refine ⟨0, q2, i2, true, ?_, ?_, Sim_bad _ _ _, by omega, by omega, (fun h => by cases h), fun _ => rfl⟩
   · unfold wire_Reader_length.f
     exact Ev.bind hp (evI h0 pfail)
   · unfold abugidaref02_Reader_length.f
     exact Ev.bind hr (evI h0 rfail)
 · cases b2 with
   | true =>
     obtain rfl := hz rfl
     refine ⟨0, q2, i2, true, ?_, ?_, hs2, by omega, by omega, (fun h => by cases h), fun _ => rfl⟩
     · unfold wire_Reader_length.f
       refine Ev.bind hp (evN h0 ?_)
       refine Ev.bind (a := (0, q2, true)) (Ev.now _) ?_
       exact evN (by show ¬ (0 : Int) > 0; decide) (Ev.now _)
     · unfold abugidaref02_Reader_length.f
       refine Ev.bind hr (evN h0 ?_)
       refine Ev.bind (a := (0, s, i2, true)) (Ev.now _) ?_
       exact evN (by show ¬ (0 : Int) > 0; decide) (Ev.now _)
   | false =>
     obtain ⟨n, rfl, hn, rfl⟩ := hs2.2 rfl
     have hsz := size_ext s n hn
     by_cases hg : x > ((s.size - n : Nat) : Int)
     · refine ⟨0, s.extract n s.size, (n : Int), true, ?_, ?_, Sim_bad _ _ _, by omega, by omega, (fun h => by cases h), fun _ => rfl⟩
       · unfold wire_Reader_length.f
         refine Ev.bind hp (evN h0 ?_)
         refine Ev.bind (a := (((s.extract n s.size).size : Int), s.extract n s.size, false)) (Ev.now _) ?_
         exact evI (by show x > ((s.extract n s.size).size : Int); rw [hsz]; exact hg) pfail
       · unfold abugidaref02_Reader_length.f
         refine Ev.bind hr (evN h0 ?_)
         refine Ev.bind (a := (((s.size - n : Nat) : Int), s, (n : Int), false)) (Ev.congr (fun _ => Left_ref s n hn (by omega)) (Ev.now _)) ?_
         exact evI hg rfail
     · refine ⟨x, _, (n : Int), false, ?_, ?_, hs2, by omega, by omega, fun _ => by rw [hsz]; omega, fun h => by cases h⟩
       · unfold wire_Reader_length.f
         refine Ev.bind hp (evN h0 ?_)
         refine Ev.bind (a := (((s.extract n s.size).size : Int), s.extract n s.size, false)) (Ev.now _) ?_
         exact evN (by show ¬ x > ((s.extract n s.size).size : Int); rw [hsz]; exact hg) (Ev.now _)
       · unfold abugidaref02_Reader_length.f
         refine Ev.bind hr (evN h0 ?_)
         refine Ev.bind (a := (((s.size - n : Nat) : Int), s, (n : Int), false)) (Ev.congr (fun _ => Left_ref s n hn (by omega)) (Ev.now _)) ?_
         exact evN hg (Ev.now _)
theorem SameTexts_loop (a : List ByteArray) (ha : a.length ≤ 9000) (d : Nat) : ∀ i : Nat, a.length - i = d → i ≤ a.length → Ev (fun k => abugidaref02_SameTexts.l0 k a a i) true := by
 induction d with
 | zero =>
   intro i hd hi
   refine Ev.step (fun k => abugidaref02_SameTexts.l0.eq_2 ..) ?_
   exact evN (by omega) (Ev.now _)
 | succ d ih =>
   intro i hd hi
   refine Ev.step (fun k => abugidaref02_SameTexts.l0.eq_2 ..) ?_
   refine evI (by omega) (evI (by omega) (evI (by omega) (evI rfl ?_)))
   rw [show wrap64 ((i : Int) + 1) = ((i + 1 : Nat) : Int) from w64 (by omega) (by omega)]
   exact ih (i + 1) (by omega) (by omega)
theorem Text_same2 (s : ByteArray) (hs : s.size ≤ 9000) (q : ByteArray) (b : Bool) (i : Int) (h : Sim q b s i b) :
 ∃ (x q2 : ByteArray) (i2 : Int) (b2 : Bool), Ev (fun k => wire_Reader_Text.f k q b) (x, q2, b2) ∧ Ev (fun k => abugidaref02_Reader_Text.f k s i b) (x, s, i2, b2) ∧ Sim q2 b2 s i2 b2 ∧ x.size ≤ 9000 := by
 obtain ⟨x, q2, i2, b2, hp, hr, hs2, hx, hx2, hl, hz⟩ := length_same s hs q b i h
 cases b2 with
 | true =>
   refine ⟨⟨#[]⟩, q2, i2, true, ?_, ?_, hs2, Nat.zero_le _⟩
   · unfold wire_Reader_Text.f
     refine Ev.bind hp ?_
     refine Ev.bind (a := (true, q2, true)) (Ev.now _) ?_
     exact evI rfl (Ev.now _)
   · unfold abugidaref02_Reader_Text.f
     refine Ev.bind hr ?_
     refine Ev.bind (a := (true, s, i2, true)) (Ev.now _) ?_
     exact evI rfl (Ev.now _)
 | false =>
   obtain ⟨n, rfl, hn, rfl⟩ := hs2.2 rfl
   have hsz := size_ext s n hn
   have hxl := hl rfl
   rw [hsz] at hxl
   obtain ⟨m, rfl⟩ : ∃ m : Nat, x = (m : Int) := ⟨x.toNat, by omega⟩
   refine ⟨(s.extract n s.size).extract 0 m, (s.extract n s.size).extract m (s.extract n s.size).size, ((n + m : Nat) : Int), false, ?_, ?_, ⟨rfl, fun _ => ⟨n + m, rfl, by omega, ext_rest s n m (by omega)⟩⟩, by simp only [ByteArray.size_extract]; omega⟩
   · unfold wire_Reader_Text.f
     refine Ev.bind hp ?_
     refine Ev.bind (a := (false, s.extract n s.size, false)) (Ev.now _) ?_
     refine evN Bool.false_ne_true ?_
     refine evI hx ?_
     refine evI (by show (m : Int) ≤ ((s.extract n s.size).size : Int); rw [hsz]; omega) ?_
     exact Ev.now _
   · unfold abugidaref02_Reader_Text.f
     refine Ev.bind hr ?_
     refine Ev.bind (a := (false, s, (n : Int), false)) (Ev.now _) ?_
     refine evN Bool.false_ne_true ?_
     have e1 : wrap64 ((n : Int) + (m : Int)) = ((n + m : Nat) : Int) := (w64 (by omega) (by omega)).trans (by omega)
     have e2 : wrap64 (((n + m : Nat) : Int) - (m : Int)) = (n : Int) := (w64 (by omega) (by omega)).trans (by omega)
     show Ev (fun k => if 0 ≤ wrap64 (wrap64 ((n : Int) + (m : Int)) - (m : Int)) then _ else _) _
     simp only [e1, e2]
     refine evI (by omega) ?_
     refine evI (by omega) ?_
     refine evI (by show ((n + m : Nat) : Int) ≤ (s.size : Int); omega) ?_
     rw [← ext_ext s n m (by omega)]
     exact Ev.now _
theorem list_same2 {α : Type} (nx : Nat → ByteArray → Bool → Option (α × ByteArray × Bool)) (rx : Nat → ByteArray → Int → Bool → Option (α × ByteArray × Int × Bool)) (lim : Nat) (hlim : 20000 ≤ lim)
 (L0 : Nat → Int → List α → Int → ByteArray → Int → Bool → Option (List α × ByteArray × Int × Bool))
 (hL : ∀ k x3 x4 x5 s i b, L0 (k + 1) x3 x4 x5 s i b = if x5 < x3 then ((rx k s i b).bind fun t => ((abugidaref02_Reader_Bad.f t.2.1 t.2.2.1 t.2.2.2).bind fun u => (if u.1 = true then (some (([] : List α), u.2.1, u.2.2.1, u.2.2.2)) else (if x4.length < lim then (L0 k x3 (x4 ++ [t.1]) (wrap64 (x5 + 1)) u.2.1 u.2.2.1 u.2.2.2) else (none))))) else (some (x4, s, i, b)))
 (s : ByteArray) (Pr : α → Prop) (same : ∀ q b i, Sim q b s i b → ∃ (x : α) (q2 : ByteArray) (i2 : Int) (b2 : Bool), Ev (fun k => nx k q b) (x, q2, b2) ∧ Ev (fun k => rx k s i b) (x, s, i2, b2) ∧ Sim q2 b2 s i2 b2 ∧ Pr x) (N : Nat) (hN : N ≤ 9000) (d : Nat) :
 ∀ (n : Nat) (acc : List α) (q : ByteArray) (b : Bool) (i : Int), N - n = d → n ≤ N → acc.length = n → (∀ t ∈ acc, Pr t) → Sim q b s i b →
   ∃ (r : List α) (q2 : ByteArray) (i2 : Int) (b2 : Bool), Ev (fun k => readL (nx k) lim d acc q b) (r, q2, b2) ∧ Ev (fun k => L0 k (N : Int) acc (n : Int) s i b) (r, s, i2, b2) ∧ Sim q2 b2 s i2 b2 ∧ r.length ≤ N ∧ (∀ t ∈ r, Pr t) := by
 induction d with
 | zero =>
   intro n acc q b i hd hn ha hpr hs
   refine ⟨acc, q, i, b, Ev.now _, ?_, hs, by omega, hpr⟩
   refine Ev.step (fun k => hL k ..) ?_
   exact evN (by omega) (Ev.now _)
 | succ d ih =>
   intro n acc q b i hd hn ha hpr hs
   obtain ⟨x, q2, i2, b2, hp, hr, hs2, hx⟩ := same q b i hs
   cases b2 with
   | true =>
     refine ⟨[], q2, i2, true, ?_, ?_, hs2, by simp, by simp⟩
     · show Ev (fun k => (nx k q b).bind fun t => if t.2.2 = true then some ([], t.2.1, t.2.2) else if acc.length < lim then readL (nx k) lim d (acc ++ [t.1]) t.2.1 t.2.2 else none) _
       exact Ev.bind hp (evI rfl (Ev.now _))
     · refine Ev.step (fun k => hL k ..) ?_
       refine evI (by omega) ?_
       refine Ev.bind hr ?_
       refine Ev.bind (a := (true, s, i2, true)) (Ev.now _) ?_
       exact evI rfl (Ev.now _)
   | false =>
     obtain ⟨r, q3, i3, b3, h1, h2, h3, h4⟩ := ih (n + 1) (acc ++ [x]) q2 false i2 (by omega) (by omega) (by simp [ha]) (fun t ht => by rcases List.mem_append.1 ht with h | h; exact hpr t h; rw [List.mem_singleton.1 h]; exact hx) hs2
     refine ⟨r, q3, i3, b3, ?_, ?_, h3, h4⟩
     · show Ev (fun k => (nx k q b).bind fun t => if t.2.2 = true then some ([], t.2.1, t.2.2) else if acc.length < lim then readL (nx k) lim d (acc ++ [t.1]) t.2.1 t.2.2 else none) _
       refine Ev.bind hp (evN Bool.false_ne_true ?_)
       exact evI (by omega) h1
     · refine Ev.step (fun k => hL k ..) ?_
       refine evI (by omega) ?_
       refine Ev.bind hr ?_
       refine Ev.bind (a := (false, s, i2, false)) (Ev.now _) ?_
       refine evN Bool.false_ne_true ?_
       refine evI (by omega) ?_
       rw [show wrap64 ((n : Int) + 1) = ((n + 1 : Nat) : Int) from w64 (by omega) (by omega)]
       exact h2
theorem Texts_same2 (s : ByteArray) (hs : s.size ≤ 9000) (q : ByteArray) (b : Bool) (i : Int) (h : Sim q b s i b) :
 ∃ (x : List ByteArray) (q2 : ByteArray) (i2 : Int) (b2 : Bool), Ev (fun k => wire_Reader_Texts.f k q b) (x, q2, b2) ∧ Ev (fun k => abugidaref02_Reader_Texts.f k s i b) (x, s, i2, b2) ∧ Sim q2 b2 s i2 b2 ∧ x.length ≤ 9000 ∧ ∀ t ∈ x, t.size ≤ 9000 := by
 obtain ⟨x, q2, i2, b2, hp, hr, hs2, hx, hx2, hl, hz⟩ := length_same s hs q b i h
 obtain ⟨N, rfl⟩ : ∃ m : Nat, x = (m : Int) := ⟨x.toNat, by omega⟩
 obtain ⟨r, q3, i3, b3, h1, h2, h3, h4, h5⟩ := list_same2 (fun k => wire_Reader_Text.f k) (fun k => abugidaref02_Reader_Text.f k) 8796093022208 (by omega) abugidaref02_Reader_Texts.l0 (fun _ _ _ _ _ _ _ => rfl) s (fun t => t.size ≤ 9000)
  (fun q b i h => Text_same2 s hs q b i h) N (by omega) N 0 [] q2 b2 i2 (by omega) (by omega) rfl (by simp) hs2
 refine ⟨r, q3, i3, b3, ?_, ?_, h3, by omega, h5⟩
 · unfold wire_Reader_Texts.f
   refine Ev.bind hp ?_
   refine evI (by show (N : Int) ≤ 9223372036854775807; omega) ?_
   exact h1
 · unfold abugidaref02_Reader_Texts.f
   exact Ev.bind hr h2
end Go.Proofs.Ythokkeljfdfppaa.Pure

