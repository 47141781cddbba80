/- Several texts of this claim, one behind the other: RlP, RlQ, RlR, RlT, RlU. -/
import Derived.Test.YthokkeljfdfppaaMgV
import Derived.Test.YthokkeljfdfppaaPby7
import Derived.Test.YthokkeljfdfppaaPby6
import Derived.Test.YthokkeljfdfppaaPby4
/- What is read is what was written: the readers turned round. -/
set_option linter.unusedVariables false
set_option linter.unusedSimpArgs false
namespace Go.Proofs.Ythokkeljfdfppaa.Pure
open Go.RowKit Go.Proofs.Ythokkeljfdfppaa.Pb Go.Proofs.YthokkeljfdfppaaW.PrintWords Go.Proofs.YthokkeljfdfppaaW.PrintLast Go.Proofs.YthokkeljfdfppaaW.PrintMore Go.Proofs.Ythokkeljfdfppaa.Gw Go.Proofs.Ythokkeljfdfppaa.Rl
theorem zag2 {p : Prop} (h : p := by rw [ByteArray.size_append, ByteArray.size_append]; omega) : p := h
theorem zag1 {p : Prop} (h : p := by rw [ByteArray.size_append]; omega) : p := h
theorem zag0 {p : Prop} (h : p := by simp only [ByteArray.size_append]; omega) : p := h
theorem ext_all (t : ByteArray) : t.extract 0 t.size = t := by
 apply ByteArray.ext
 simp
theorem ext_cut (t : ByteArray) (n : Nat) (h : n ≤ t.size) : t.extract 0 n ++ t.extract n t.size = t := by
 apply ext_of_toList
 rw [toList_data, toList_data]
 have hl : t.size = t.data.toList.length := by simp
 have h2 : List.take (t.size - n) (List.drop n t.data.toList) = List.drop n t.data.toList := List.take_of_length_le (by rw [List.length_drop, ← hl]; exact Nat.le_refl _)
 simp only [ByteArray.data_append, ByteArray.data_extract, Array.toList_append, Array.toList_extract, List.extract_eq_take_drop, List.drop_zero, Nat.sub_zero]
 rw [h2]
 exact List.take_append_drop _ _
theorem Sim_start (q : ByteArray) : Sim q false q 0 false := ⟨rfl, fun _ => ⟨0, rfl, Nat.zero_le _, (ext_all q).symm⟩⟩
theorem Int_inv (k : Nat) (q : ByteArray) (b : Bool) (hq : b = false → q.size ≤ 9000) (x : Int) (q2 : ByteArray) (h : wire_Reader_Int.f k q b = some (x, q2, false)) : b = false ∧ q = IntB x ++ q2 ∧ -9223372036854775808 ≤ x ∧ x ≤ 9223372036854775807 := by
 have hE := Ev.of (fun k => wire_Reader_Int.mono q b k) h
 cases b with
 | true =>
   have := Ev.unique hE (Int_bad q)
   simp at this
 | false =>
   obtain ⟨x', q2', i2, b2', hp, hr, hsim, hx, -, -⟩ := Int_same q (hq rfl) q false 0 (Sim_start q)
   have he := Ev.unique hE hp
   simp only [Prod.mk.injEq] at he
   obtain ⟨rfl, rfl, rfl⟩ := he
   refine ⟨rfl, ?_, hx⟩
   obtain ⟨n, rfl, hn, rfl⟩ := hsim.2 rfl
   obtain ⟨k', hk⟩ := hr.rounds
   unfold abugidaref02_Reader_Int.f at hk
   rw [if_neg (by decide)] at hk
   by_cases c1 : (0 : Int) ≤ 0 ∧ (0 : Int) ≤ (q.size : Int) ∧ q.size ≤ 1152921504606846976
   · rw [if_pos c1] at hk
     simp only [show (0 : Int).toNat = 0 from rfl] at hk
     by_cases c2 : cntF q 0 10 0 = 10 ∨ q.size - 0 ≤ cntF q 0 10 0
     · rw [if_pos c2] at hk
       simp at hk
     · rw [if_neg c2] at hk
       obtain ⟨e, he, hk⟩ := Option.bind_eq_some_iff.1 hk
       by_cases c3 : e.toList = (q.extract 0 (0 + cntF q 0 10 0 + 1)).toList
       · rw [if_pos c3] at hk
         simp only [Option.some.injEq, Prod.mk.injEq, true_and, and_true] at hk
         obtain ⟨h1, h2⟩ := hk
         have h3 : n = 0 + cntF q 0 10 0 + 1 := by omega
         have h4 := Ev.unique (Ev.of (fun k => abugidaref02_Int.mono _ k) he) (ref_Int_ev _ (by rw [h1]; exact hx.1) (by rw [h1]; exact hx.2))
         have h5 := ext_of_toList c3
         rw [← h3] at h5
         rw [← h1, ← h4, h5, ext_cut q n hn]
       · rw [if_neg c3] at hk
         simp at hk
   · rw [if_neg c1] at hk
     cases hk
theorem length_inv (k : Nat) (q : ByteArray) (b : Bool) (hq : b = false → q.size ≤ 9000) (x : Int) (q2 : ByteArray) (h : wire_Reader_length.f k q b = some (x, q2, false)) : b = false ∧ q = IntB x ++ q2 ∧ 0 ≤ x ∧ x ≤ (q2.size : Int) := by
 unfold wire_Reader_length.f at h
 obtain ⟨⟨n, q1, b1⟩, hn, h⟩ := Option.bind_eq_some_iff.1 h
 by_cases c1 : n < 0
 · rw [if_pos c1] at h
   simp [wire_Reader_fail.f] at h
 · rw [if_neg c1] at h
   obtain ⟨⟨l, q1', b1'⟩, hl, h⟩ := Option.bind_eq_some_iff.1 h
   by_cases c2 : n > l
   · rw [if_pos c2] at h
     simp [wire_Reader_fail.f] at h
   · rw [if_neg c2] at h
     simp only [Option.some.injEq, Prod.mk.injEq] at h
     obtain ⟨rfl, rfl, rfl⟩ := h
     cases b1 with
     | true => simp [wire_Reader_Left.f, wire_Reader_Bad.f] at hl
     | false =>
       simp only [wire_Reader_Left.f, wire_Reader_Bad.f, Option.bind_some, Bool.false_eq_true, if_false, Option.some.injEq, Prod.mk.injEq] at hl
       obtain ⟨rfl, rfl, -⟩ := hl
       obtain ⟨h1, h2, -, -⟩ := Int_inv k q b hq n q1 hn
       exact ⟨h1, h2, by omega, by omega⟩
theorem Text_inv (k : Nat) (q : ByteArray) (b : Bool) (hq : b = false → q.size ≤ 9000) (x q2 : ByteArray) (h : wire_Reader_Text.f k q b = some (x, q2, false)) : b = false ∧ q = TextB x ++ q2 := by
 unfold wire_Reader_Text.f at h
 obtain ⟨⟨n, q1, b1⟩, hn, h⟩ := Option.bind_eq_some_iff.1 h
 cases b1 with
 | true => simp [wire_Reader_Bad.f] at h
 | false =>
   obtain ⟨h1, h2, h3, h4⟩ := length_inv k q b hq n q1 hn
   simp only [wire_Reader_Bad.f, Option.bind_some, Bool.false_eq_true, if_false, if_pos h3, if_pos h4, Option.some.injEq, Prod.mk.injEq, and_true] at h
   obtain ⟨rfl, rfl⟩ := h
   refine ⟨h1, ?_⟩
   have hz : (q1.extract 0 n.toNat).size = n.toNat := by rw [ByteArray.size_extract]; omega
   rw [h2, TextB, hz, show ((n.toNat : Nat) : Int) = n by omega, ByteArray.append_assoc, ext_cut q1 n.toNat (by omega)]
theorem readL_inv {α : Type} (nx : ByteArray → Bool → Option (α × ByteArray × Bool)) (lim : Nat) (G : α → ByteArray) (inv : ∀ q b x q2, (b = false → q.size ≤ 9000) → nx q b = some (x, q2, false) → b = false ∧ q = G x ++ q2) :
 ∀ (d : Nat) (acc : List α) (q : ByteArray) (b : Bool) (r : List α) (q2 : ByteArray), (b = false → q.size ≤ 9000) → readL nx lim d acc q b = some (r, q2, false) → b = false ∧ ∃ r', r = acc ++ r' ∧ r'.length = d ∧ q = join G r' ByteArray.empty ++ q2
 | 0, acc, q, b, r, q2, hq, h => by
   simp only [readL, Option.some.injEq, Prod.mk.injEq] at h
   obtain ⟨rfl, rfl, rfl⟩ := h
   exact ⟨rfl, [], by simp, rfl, by simp [join]⟩
 | d + 1, acc, q, b, r, q2, hq, h => by
   simp only [readL] at h
   obtain ⟨⟨x, q1, b1⟩, hx, h⟩ := Option.bind_eq_some_iff.1 h
   cases b1 with
   | true => simp at h
   | false =>
     simp only [Bool.false_eq_true, if_false] at h
     obtain ⟨h1, h2⟩ := inv q b x q1 hq hx
     by_cases c : acc.length < lim
     · rw [if_pos c] at h
       have hq1 : q1.size ≤ 9000 := by have h_ := hq h1; rw [h2, ByteArray.size_append] at h_; omega
       obtain ⟨-, r', h3, h4, h5⟩ := readL_inv nx lim G inv d _ q1 false r q2 (fun _ => hq1) h
       refine ⟨h1, x :: r', by rw [h3]; simp, by simp [h4], ?_⟩
       rw [h2, h5, show join G (x :: r') ByteArray.empty = join G r' (ByteArray.empty ++ G x) from rfl, join_cons G r' (ByteArray.empty ++ G x), ByteArray.empty_append, ByteArray.append_assoc]
     · rw [if_neg c] at h
       cases h
theorem Ints_inv (k : Nat) (q : ByteArray) (b : Bool) (hq : b = false → q.size ≤ 9000) (x : List Int) (q2 : ByteArray) (h : wire_Reader_Ints.f k q b = some (x, q2, false)) : b = false ∧ q = IntsB x ++ q2 := by
 unfold wire_Reader_Ints.f at h
 obtain ⟨⟨n, q1, b1⟩, hn, h⟩ := Option.bind_eq_some_iff.1 h
 by_cases c : n ≤ 9223372036854775807
 · simp only [if_pos c] at h
   have hl := h
   cases b1 with
   | true =>
     obtain ⟨n', hb, hr⟩ : ∃ d, d = n.toNat ∧ readL (wire_Reader_Int.f k) 17592186044416 d [] q1 true = some (x, q2, false) := ⟨_, rfl, h⟩
     cases n' with
     | zero => simp [readL] at hr
     | succ d =>
       simp only [readL] at hr
       obtain ⟨⟨y, q3, b3⟩, hy, hr⟩ := Option.bind_eq_some_iff.1 hr
       have := Ev.unique (Ev.of (fun k => wire_Reader_Int.mono q1 true k) hy) (Int_bad q1)
       simp only [Prod.mk.injEq] at this
       obtain ⟨-, -, rfl⟩ := this
       simp at hr
   | false =>
     obtain ⟨h1, h2, h3, h4⟩ := length_inv k q b hq n q1 hn
     have hq1 : q1.size ≤ 9000 := by have h_ := hq h1; rw [h2, ByteArray.size_append] at h_; omega
     obtain ⟨-, r', h5, h6, h7⟩ := readL_inv (wire_Reader_Int.f k) _ IntB (fun q b x q2 hq h => ⟨(Int_inv k q b hq x q2 h).1, (Int_inv k q b hq x q2 h).2.1⟩) _ _ _ _ _ _ (fun _ => hq1) h
     simp only [List.nil_append] at h5
     subst h5
     refine ⟨h1, ?_⟩
     rw [h2, h7, IntsB, join_cons IntB x (IntB _), h6, show ((n.toNat : Nat) : Int) = n by omega, ByteArray.append_assoc]
 · simp only [if_neg c] at h
   cases h
theorem Texts_inv (k : Nat) (q : ByteArray) (b : Bool) (hq : b = false → q.size ≤ 9000) (x : List ByteArray) (q2 : ByteArray) (h : wire_Reader_Texts.f k q b = some (x, q2, false)) : b = false ∧ q = TextsB x ++ q2 := by
 unfold wire_Reader_Texts.f at h
 obtain ⟨⟨n, q1, b1⟩, hn, h⟩ := Option.bind_eq_some_iff.1 h
 by_cases c : n ≤ 9223372036854775807
 · simp only [if_pos c] at h
   cases b1 with
   | true =>
     obtain ⟨n', hb, hr⟩ : ∃ d, d = n.toNat ∧ readL (wire_Reader_Text.f k) 8796093022208 d [] q1 true = some (x, q2, false) := ⟨_, rfl, h⟩
     cases n' with
     | zero => simp [readL] at hr
     | succ d =>
       simp only [readL] at hr
       obtain ⟨⟨y, q3, b3⟩, hy, hr⟩ := Option.bind_eq_some_iff.1 hr
       have := Ev.unique (Ev.of (fun k => wire_Reader_Text.mono q1 true k) hy) (Text_of_bad q1 q1 true (length_of_bad q1 q1 true (Int_bad q1)))
       simp only [Prod.mk.injEq] at this
       obtain ⟨-, -, rfl⟩ := this
       simp at hr
   | false =>
     obtain ⟨h1, h2, h3, h4⟩ := length_inv k q b hq n q1 hn
     have hq1 : q1.size ≤ 9000 := by have h_ := hq h1; rw [h2, ByteArray.size_append] at h_; omega
     obtain ⟨-, r', h5, h6, h7⟩ := readL_inv (wire_Reader_Text.f k) _ TextB (fun q b x q2 hq h => Text_inv k q b hq x q2 h) _ _ _ _ _ _ (fun _ => hq1) h
     simp only [List.nil_append] at h5
     subst h5
     refine ⟨h1, ?_⟩
     rw [h2, h7, TextsB, join_cons TextB x (IntB _), h6, show ((n.toNat : Nat) : Int) = n by omega, ByteArray.append_assoc]
 · simp only [if_neg c] at h
   cases h
def I64 (x : Int) : Prop := -9223372036854775808 ≤ x ∧ x ≤ 9223372036854775807
structure KOk (k : S52) : Prop where
 a : I64 k.f0
 b : I64 k.f1
 c : I64 k.f2
def KeyB (k : S52) : ByteArray := (IntB k.f0 ++ IntB k.f1) ++ IntB k.f2
def askW : ByteArray := ⟨#[97, 115, 107]⟩
def toldW : ByteArray := ⟨#[116, 111, 108, 100]⟩
def HeadB (f : ByteArray) (v : Int) (n : Int) : ByteArray := ((TextB askW ++ TextB f) ++ IntB v) ++ IntB n
def AskB (f : ByteArray) (v : Int) (ks : List S52) : ByteArray := join KeyB ks (HeadB f v ks.length)
def ks6 (p : S55) : List Int := [p.f2.f0, p.f2.f1, p.f2.f2, p.f3.f0, p.f3.f1, p.f3.f2]
def EncB (p : S55) : ByteArray := ((((TextB p.f0 ++ IntB p.f1) ++ IntsB (ks6 p)) ++ TextB p.f4) ++ IntB p.f5) ++ TextsB p.f6
def ToldB (l : List S55) : ByteArray := TextB toldW ++ TextsB (l.map EncB)
structure POk (p : S55) : Prop where
 f0 : p.f0.size ≤ 9000
 f1 : I64 p.f1
 f2 : KOk p.f2
 f3 : KOk p.f3
 f4 : p.f4.size ≤ 9000
 f5 : I64 p.f5
 f6 : p.f6.length ≤ 9000
 el : ∀ t ∈ p.f6, t.size ≤ 9000
 enc : (EncB p).size ≤ 9000
theorem POk.ks {p : S55} (h : POk p) : Ok64 (ks6 p) := fun x hx => by
 simp only [ks6, List.mem_cons, List.not_mem_nil, or_false] at hx
 rcases hx with rfl | rfl | rfl | rfl | rfl | rfl
 · exact h.f2.a
 · exact h.f2.b
 · exact h.f2.c
 · exact h.f3.a
 · exact h.f3.b
 · exact h.f3.c
theorem KeyB_size {k : S52} (h : KOk k) : (KeyB k).size ≤ 30 := by
 have h1 := IntB_small k.f0 h.a.1 h.a.2
 have h2 := IntB_small k.f1 h.b.1 h.b.2
 have h3 := IntB_small k.f2 h.c.1 h.c.2
 unfold KeyB
 rw [ByteArray.size_append, ByteArray.size_append]
 omega
theorem HeadB_size {f : ByteArray} {v n : Int} (hf : f.size ≤ 9000) (hv : I64 v) (hn : I64 n) : (HeadB f v n).size ≤ 9100 := by
 have h1 := TextB_size askW (by decide)
 have h2 := TextB_size f (by omega)
 have h3 := IntB_small v hv.1 hv.2
 have h4 := IntB_small n hn.1 hn.2
 have h5 : askW.size = 3 := rfl
 unfold HeadB
 rw [ByteArray.size_append, ByteArray.size_append, ByteArray.size_append]
 omega
theorem rd52 {l : List S52} {i : Nat} {s : S52} (h : l[i]? = some s) : rd_T52 l (i : Int) = s := by
 unfold rd_T52
 rw [List.getD_eq_getElem?_getD, Int.toNat_natCast, h]
 rfl
theorem rd55 {l : List S55} {i : Nat} {s : S55} (h : l[i]? = some s) : rd_T55 l (i : Int) = s := by
 unfold rd_T55
 rw [List.getD_eq_getElem?_getD, Int.toNat_natCast, h]
 rfl
theorem Ask_loop (l : List S52) (hl : l.length ≤ 9000) (h : ∀ k ∈ l, KOk k) (H : ByteArray) (hH : H.size ≤ 9100) (d : Nat) : ∀ i : Nat, l.length - i = d → i ≤ l.length → Ev (fun k => relay_Ask.l0 k (join KeyB (l.take i) H) l (l.length : Int) i) (join KeyB l H) := by
 induction d with
 | zero =>
   intro i hd hi
   refine Ev.step (fun k => relay_Ask.l0.eq_2 ..) ?_
   refine evN (by omega) ?_
   rw [List.take_of_length_le (by omega)]
   exact Ev.now _
 | succ d ih =>
   intro i hd hi
   obtain ⟨x, hx⟩ := get_some (l := l) (i := i) (by omega)
   have x0 := h x (List.mem_of_getElem? hx)
   have hz := join_take_size KeyB 30 l i H (fun y hy => KeyB_size (h y hy)) hi
   have hk := KeyB_size x0
   have h1 := IntB_small x.f0 x0.a.1 x0.a.2
   have h2 := IntB_small x.f1 x0.b.1 x0.b.2
   have h3 := IntB_small x.f2 x0.c.1 x0.c.2
   refine Ev.step (fun k => relay_Ask.l0.eq_2 ..) ?_
   refine evI (by omega) ?_
   refine evI (by omega) ?_
   refine evI (by omega) ?_
   rw [rd52 hx]
   refine Ev.bind (wire_Int_ev x.f0 x0.a.1 x0.a.2) ?_
   refine Ev.bind (wire_Int_ev x.f1 x0.b.1 x0.b.2) ?_
   refine evI (by omega) ?_
   refine Ev.bind (wire_Int_ev x.f2 x0.c.1 x0.c.2) ?_
   refine evI zag1 ?_
   refine evI (by show (join KeyB (l.take i) H).size + (KeyB x).size ≤ _; omega) ?_
   rw [show wrap64 ((i : Int) + 1) = ((i + 1 : Nat) : Int) from w64 (by omega) (by omega)]
   show Ev (fun k => relay_Ask.l0 k (join KeyB (l.take i) H ++ KeyB x) l (l.length : Int) ((i + 1 : Nat) : Int)) _
   rw [← join_snoc KeyB l i x hx H]
   exact ih (i + 1) (by omega) (by omega)
theorem Ask_ev (f : ByteArray) (v : Int) (ks : List S52) (hf : f.size ≤ 9000) (hv : I64 v) (hl : ks.length ≤ 9000) (h : ∀ k ∈ ks, KOk k) : Ev (fun k => relay_Ask.f k f v ks) (AskB f v ks) := by
 have h1 := TextB_size askW (by decide)
 have h2 := TextB_size f (by omega)
 have h3 := IntB_small v hv.1 hv.2
 have h4 := IntB_small ks.length (by omega) (by omega)
 have h5 : askW.size = 3 := rfl
 unfold relay_Ask.f
 refine Ev.bind (wire_Text_ev askW (by decide)) ?_
 refine Ev.bind (wire_Text_ev f (by omega)) ?_
 refine evI (by omega) ?_
 refine Ev.bind (wire_Int_ev v hv.1 hv.2) ?_
 refine evI zag1 ?_
 refine Ev.bind (wire_Int_ev ks.length (by omega) (by omega)) ?_
 refine evI zag2 ?_
 exact Ask_loop ks hl h (HeadB f v ks.length) (HeadB_size hf hv ⟨by omega, by omega⟩) ks.length 0 (by omega) (by omega)
theorem refAsk_loop (l : List S52) (hl : l.length ≤ 9000) (h : ∀ k ∈ l, KOk k) (H : ByteArray) (hH : H.size ≤ 9100) (d : Nat) : ∀ i : Nat, l.length - i = d → i ≤ l.length → Ev (fun k => abugidaref35_Ask.l0 k l (join KeyB (l.take i) H) i) (join KeyB l H) := by
 induction d with
 | zero =>
   intro i hd hi
   refine Ev.step (fun k => abugidaref35_Ask.l0.eq_2 ..) ?_
   refine evN (by omega) ?_
   rw [List.take_of_length_le (by omega)]
   exact Ev.now _
 | succ d ih =>
   intro i hd hi
   obtain ⟨x, hx⟩ := get_some (l := l) (i := i) (by omega)
   have x0 := h x (List.mem_of_getElem? hx)
   have hz := join_take_size KeyB 30 l i H (fun y hy => KeyB_size (h y hy)) hi
   have h1 := IntB_small x.f0 x0.a.1 x0.a.2
   have h2 := IntB_small x.f1 x0.b.1 x0.b.2
   have h3 := IntB_small x.f2 x0.c.1 x0.c.2
   refine Ev.step (fun k => abugidaref35_Ask.l0.eq_2 ..) ?_
   refine evI (by omega) ?_
   refine evI (by omega) ?_
   rw [rd52 hx]
   refine Ev.bind (ref_Int_ev x.f0 x0.a.1 x0.a.2) ?_
   refine evI (by omega) ?_
   refine Ev.bind (ref_Int_ev x.f1 x0.b.1 x0.b.2) ?_
   refine evI zag1 ?_
   refine Ev.bind (ref_Int_ev x.f2 x0.c.1 x0.c.2) ?_
   refine evI zag2 ?_
   rw [show wrap64 ((i : Int) + 1) = ((i + 1 : Nat) : Int) from w64 (by omega) (by omega)]
   rw [show (join KeyB (l.take i) H ++ IntB x.f0 ++ IntB x.f1 ++ IntB x.f2) = join KeyB (l.take i) H ++ KeyB x by unfold KeyB; simp only [ByteArray.append_assoc]]
   rw [← join_snoc KeyB l i x hx H]
   exact ih (i + 1) (by omega) (by omega)
theorem refAsk_ev (f : ByteArray) (v : Int) (ks : List S52) (hf : f.size ≤ 9000) (hv : I64 v) (hl : ks.length ≤ 9000) (h : ∀ k ∈ ks, KOk k) : Ev (fun k => abugidaref35_Ask.f k f v ks) (AskB f v ks) := by
 have h1 := TextB_size askW (by decide)
 have h2 := TextB_size f (by omega)
 have h3 := IntB_small v hv.1 hv.2
 have h4 := IntB_small ks.length (by omega) (by omega)
 have h5 : askW.size = 3 := rfl
 unfold abugidaref35_Ask.f
 refine Ev.bind (ref_Text_ev askW (by decide)) ?_
 refine Ev.bind (ref_Text_ev f (by omega)) ?_
 refine evI (by omega) ?_
 refine Ev.bind (ref_Int_ev v hv.1 hv.2) ?_
 refine evI zag1 ?_
 refine Ev.bind (ref_Int_ev ks.length (by omega) (by omega)) ?_
 refine evI zag2 ?_
 exact refAsk_loop ks hl h (HeadB f v ks.length) (HeadB_size hf hv ⟨by omega, by omega⟩) ks.length 0 (by omega) (by omega)
theorem TextsB_any (l : List ByteArray) (hl : l.length ≤ 9000) (h : ∀ t ∈ l, t.size ≤ 9000) : (TextsB l).size ≤ 90000000 := by
 have h1 := IntB_small (l.length : Int) (by omega) (by omega)
 have h2 := join_size TextB 9010 l (IntB l.length) (fun t ht => Nat.le_trans (TextB_size t (by have := h t ht; omega)) (by have := h t ht; omega))
 unfold TextsB
 omega
theorem enc_sizes {p : S55} (h : POk p) : (TextB p.f0).size ≤ 9010 ∧ (IntB p.f1).size ≤ 10 ∧ (IntsB (ks6 p)).size ≤ 70 ∧ (TextB p.f4).size ≤ 9010 ∧ (IntB p.f5).size ≤ 10 ∧ (TextsB p.f6).size ≤ 90000000 := by
 have h1 := TextB_size p.f0 (by have := h.f0; omega)
 have h2 := TextB_size p.f4 (by have := h.f4; omega)
 have h3 := IntB_small p.f1 h.f1.1 h.f1.2
 have h4 := IntB_small p.f5 h.f5.1 h.f5.2
 have h5 := IntsB_size (ks6 p) (show (6 : Nat) ≤ 1000 by decide) h.ks
 have h6 : (ks6 p).length = 6 := rfl
 have h7 := h.f0
 have h8 := h.f4
 exact ⟨by omega, h3, by omega, by omega, h4, TextsB_any p.f6 h.f6 h.el⟩
theorem Encode_ev (p : S55) (h : POk p) : Ev (fun k => patch_Encode.f k p.f0 p.f1 p.f2.f0 p.f2.f1 p.f2.f2 p.f3.f0 p.f3.f1 p.f3.f2 p.f4 p.f5 p.f6) (EncB p) := by
 obtain ⟨h1, h2, h3, h4, h5, h6⟩ := enc_sizes h
 unfold patch_Encode.f
 refine Ev.bind (wire_Text_ev p.f0 (by have := h.f0; omega)) ?_
 refine Ev.bind (wire_Int_ev p.f1 h.f1.1 h.f1.2) ?_
 refine evI (by omega) ?_
 refine Ev.bind (wire_Ints_ev (ks6 p) (show (6 : Nat) ≤ 9000 by decide) h.ks) ?_
 refine evI zag1 ?_
 refine Ev.bind (wire_Text_ev p.f4 (by have := h.f4; omega)) ?_
 refine evI zag0 ?_
 refine Ev.bind (wire_Int_ev p.f5 h.f5.1 h.f5.2) ?_
 refine evI zag0 ?_
 refine Ev.bind (wire_Texts_ev p.f6 h.f6 (fun t ht => by have := h.el t ht; omega)) ?_
 refine evI zag0 ?_
 exact Ev.now _
theorem refEncode_ev (p : S55) (h : POk p) : Ev (fun k => abugidaref25_Encode.f k p.f0 p.f1 p.f2.f0 p.f2.f1 p.f2.f2 p.f3.f0 p.f3.f1 p.f3.f2 p.f4 p.f5 p.f6) (EncB p) := by
 obtain ⟨h1, h2, h3, h4, h5, h6⟩ := enc_sizes h
 unfold abugidaref25_Encode.f
 refine Ev.bind (ref_Ints_ev (ks6 p) (show (6 : Nat) ≤ 9000 by decide) h.ks) ?_
 refine Ev.bind (ref_Text_ev p.f0 (by have := h.f0; omega)) ?_
 refine Ev.bind (ref_Int_ev p.f1 h.f1.1 h.f1.2) ?_
 refine evI (by omega) ?_
 refine evI zag1 ?_
 refine Ev.bind (ref_Text_ev p.f4 (by have := h.f4; omega)) ?_
 refine evI zag0 ?_
 refine Ev.bind (ref_Int_ev p.f5 h.f5.1 h.f5.2) ?_
 refine evI zag0 ?_
 refine Ev.bind (ref_Texts_ev p.f6 h.f6 (fun t ht => by have := h.el t ht; omega)) ?_
 refine evI zag0 ?_
 exact Ev.now _
theorem enc_mem {l : List S55} (h : ∀ p ∈ l, POk p) : ∀ t ∈ l.map EncB, t.size ≤ 9000 := fun t ht => by
 obtain ⟨p, hp, rfl⟩ := List.mem_map.1 ht
 exact (h p hp).enc
theorem map_snoc {α β : Type} (f : α → β) (l : List α) (i : Nat) (x : α) (h : l[i]? = some x) : (l.take (i + 1)).map f = (l.take i).map f ++ [f x] := by
 rw [List.take_add_one, h]
 simp
theorem told_end (l : List S55) (hl : l.length ≤ 9000) (h : ∀ p ∈ l, POk p) : Ev (fun k => (wire_Text.f k toldW).bind fun t196 => ((wire_Texts.f k (l.map EncB)).bind fun t197 => (if t196.size + t197.size ≤ 9223372036854775807 then (some (t196 ++ t197)) else (none)))) (ToldB l) := by
 have h1 := TextB_size toldW (by decide)
 have h2 := TextsB_any (l.map EncB) (by simpa using hl) (enc_mem h)
 have h5 : toldW.size = 4 := rfl
 refine Ev.bind (wire_Text_ev toldW (by decide)) ?_
 refine Ev.bind (wire_Texts_ev (l.map EncB) (by simpa using hl) (fun t ht => by have := enc_mem h t ht; omega)) ?_
 refine evI (by omega) ?_
 exact Ev.now _
theorem Told_loop (l : List S55) (hl : l.length ≤ 9000) (h : ∀ p ∈ l, POk p) (d : Nat) : ∀ i : Nat, l.length - i = d → i ≤ l.length → Ev (fun k => relay_Told.l0 k ((l.take i).map EncB) l (l.length : Int) i) (ToldB l) := by
 induction d with
 | zero =>
   intro i hd hi
   refine Ev.step (fun k => relay_Told.l0.eq_2 ..) ?_
   refine evN (by omega) ?_
   rw [List.take_of_length_le (by omega)]
   exact told_end l hl h
 | succ d ih =>
   intro i hd hi
   obtain ⟨x, hx⟩ := get_some (l := l) (i := i) (by omega)
   have x0 := h x (List.mem_of_getElem? hx)
   refine Ev.step (fun k => relay_Told.l0.eq_2 ..) ?_
   refine evI (by omega) ?_
   refine evI (by omega) ?_
   refine evI (by omega) ?_
   rw [rd55 hx]
   refine Ev.bind (Encode_ev x x0) ?_
   refine evI (by simp; omega) ?_
   rw [show wrap64 ((i : Int) + 1) = ((i + 1 : Nat) : Int) from w64 (by omega) (by omega), ← map_snoc EncB l i x hx]
   exact ih (i + 1) (by omega) (by omega)
theorem Told_ev (l : List S55) (hl : l.length ≤ 9000) (h : ∀ p ∈ l, POk p) : Ev (fun k => relay_Told.f k l) (ToldB l) := Told_loop l hl h l.length 0 (by omega) (by omega)
theorem refTold_loop (l : List S55) (hl : l.length ≤ 9000) (h : ∀ p ∈ l, POk p) (d : Nat) : ∀ i : Nat, l.length - i = d → i ≤ l.length → Ev (fun k => abugidaref35_Told.l0 k l ((l.take i).map EncB) i) (ToldB l) := by
 have h1 := TextB_size toldW (by decide)
 have h2 := TextsB_any (l.map EncB) (by simpa using hl) (enc_mem h)
 have h5 : toldW.size = 4 := rfl
 induction d with
 | zero =>
   intro i hd hi
   refine Ev.step (fun k => abugidaref35_Told.l0.eq_2 ..) ?_
   refine evN (by omega) ?_
   rw [List.take_of_length_le (by omega)]
   refine Ev.bind (ref_Text_ev toldW (by decide)) ?_
   refine Ev.bind (ref_Texts_ev (l.map EncB) (by simpa using hl) (fun t ht => by have := enc_mem h t ht; omega)) ?_
   refine evI (by omega) ?_
   exact Ev.now _
 | succ d ih =>
   intro i hd hi
   obtain ⟨x, hx⟩ := get_some (l := l) (i := i) (by omega)
   have x0 := h x (List.mem_of_getElem? hx)
   refine Ev.step (fun k => abugidaref35_Told.l0.eq_2 ..) ?_
   refine evI (by omega) ?_
   refine evI (by omega) ?_
   rw [rd55 hx]
   refine Ev.bind (refEncode_ev x x0) ?_
   refine evI (by simp; omega) ?_
   rw [show wrap64 ((i : Int) + 1) = ((i + 1 : Nat) : Int) from w64 (by omega) (by omega), ← map_snoc EncB l i x hx]
   exact ih (i + 1) (by omega) (by omega)
theorem refTold_ev (l : List S55) (hl : l.length ≤ 9000) (h : ∀ p ∈ l, POk p) : Ev (fun k => abugidaref35_Told.f k l) (ToldB l) := refTold_loop l hl h l.length 0 (by omega) (by omega)
theorem Ints_same2 (s : ByteArray) (hs : s.size ≤ 9000) (q : ByteArray) (b : Bool) (i : Int) (h : Sim q b s i b) :
 ∃ (x : List Int) (q2 : ByteArray) (i2 : Int) (b2 : Bool), Ev (fun k => wire_Reader_Ints.f k q b) (x, q2, b2) ∧ Ev (fun k => abugidaref02_Reader_Ints.f k s i b) (x, s, i2, b2) ∧ Sim q2 b2 s i2 b2 ∧ x.length ≤ 9000 ∧ ∀ t ∈ x, I64 t := by
 obtain ⟨x, q2, i2, b2, hp, hr, hs2, hx, hx2, hl, hz⟩ := length_same s hs q b i h
 obtain ⟨N, rfl⟩ : ∃ m : Nat, x = (m : Int) := ⟨x.toNat, by omega⟩
 obtain ⟨r, q3, i3, b3, h1, h2, h3, h4, h5⟩ := list_same2 (fun k => wire_Reader_Int.f k) (fun k => abugidaref02_Reader_Int.f k) 17592186044416 (by omega) abugidaref02_Reader_Ints.l0 (fun _ _ _ _ _ _ _ => rfl) s I64
  (fun q b i h => by obtain ⟨x, q2, i2, b2, h1, h2, h3, h4, -⟩ := Int_same s hs q b i h; exact ⟨x, q2, i2, b2, h1, h2, h3, h4⟩) N (by omega) N 0 [] q2 b2 i2 (by omega) (by omega) rfl (by simp) hs2
 refine ⟨r, q3, i3, b3, ?_, ?_, h3, by omega, h5⟩
 · unfold wire_Reader_Ints.f
   refine Ev.bind hp ?_
   refine evI (by show (N : Int) ≤ 9223372036854775807; omega) ?_
   exact h1
 · unfold abugidaref02_Reader_Ints.f
   exact Ev.bind hr h2
theorem Sim.size {q s : ByteArray} {b b' : Bool} {i : Int} (h : Sim q b s i b') (hs : s.size ≤ 9000) : b = false → q.size ≤ 9000 := fun hb => by
 obtain ⟨n, -, hn, rfl⟩ := h.2 hb
 rw [ByteArray.size_extract]
 omega
theorem Int_invE {q : ByteArray} {b : Bool} {x : Int} {q2 : ByteArray} (hq : b = false → q.size ≤ 9000) (h : Ev (fun k => wire_Reader_Int.f k q b) (x, q2, false)) : b = false ∧ q = IntB x ++ q2 := by
 obtain ⟨k, hk⟩ := h.rounds
 exact ⟨(Int_inv k q b hq x q2 hk).1, (Int_inv k q b hq x q2 hk).2.1⟩
theorem Text_invE {q : ByteArray} {b : Bool} {x q2 : ByteArray} (hq : b = false → q.size ≤ 9000) (h : Ev (fun k => wire_Reader_Text.f k q b) (x, q2, false)) : b = false ∧ q = TextB x ++ q2 := by
 obtain ⟨k, hk⟩ := h.rounds
 exact Text_inv k q b hq x q2 hk
theorem Ints_invE {q : ByteArray} {b : Bool} {x : List Int} {q2 : ByteArray} (hq : b = false → q.size ≤ 9000) (h : Ev (fun k => wire_Reader_Ints.f k q b) (x, q2, false)) : b = false ∧ q = IntsB x ++ q2 := by
 obtain ⟨k, hk⟩ := h.rounds
 exact Ints_inv k q b hq x q2 hk
theorem Texts_invE {q : ByteArray} {b : Bool} {x : List ByteArray} {q2 : ByteArray} (hq : b = false → q.size ≤ 9000) (h : Ev (fun k => wire_Reader_Texts.f k q b) (x, q2, false)) : b = false ∧ q = TextsB x ++ q2 := by
 obtain ⟨k, hk⟩ := h.rounds
 exact Texts_inv k q b hq x q2 hk
theorem Sim.left {q s : ByteArray} {b' : Bool} {i : Int} (h : Sim q false s i b') (hs : s.size ≤ 9000) : wrap64 ((s.size : Int) - i) = (q.size : Int) := by
 obtain ⟨n, rfl, hn, rfl⟩ := h.2 rfl
 rw [size_ext s n hn, w64 (by omega) (by omega)]
 omega
theorem nil_of_size {q : ByteArray} (h : q.size = 0) : q = ByteArray.empty := by
 apply ext_of_toList
 rw [toList_data, toList_data]
 have : q.data.size = 0 := h
 rw [Array.size_eq_zero_iff.1 this]
 rfl
theorem dec_same (s : ByteArray) (hs : s.size ≤ 9000) : ∃ x : S55 × Int, Ev (fun k => patch_Decode.r k s) x ∧ Ev (fun k => abugidaref25_Decode.r k s) x ∧ (x.2 = 0 → s = EncB x.1 ∧ POk x.1) := by
 obtain ⟨t, q1, i1, b1, p1, r1, m1, z1⟩ := Text_same2 s hs s false 0 (Sim_start s)
 obtain ⟨v, q2, i2, b2, p2, r2, m2, z2, -⟩ := Int_same s hs q1 b1 i1 m1
 obtain ⟨ks, q3, i3, b3, p3, r3, m3, z3, y3⟩ := Ints_same2 s hs q2 b2 i2 m2
 obtain ⟨bd, q4, i4, b4, p4, r4, m4, z4⟩ := Text_same2 s hs q3 b3 i3 m3
 obtain ⟨ix, q5, i5, b5, p5, r5, m5, z5, -⟩ := Int_same s hs q4 b4 i4 m4
 obtain ⟨pr, q6, i6, b6, p6, r6, m6, z6, y6⟩ := Texts_same2 s hs q5 b5 i5 m5
 have hleft : decF t v ks bd ix pr (wrap64 ((s.size : Int) - i6)) b6 = decF t v ks bd ix pr (q6.size : Int) b6 := by
  cases b6 with
  | true => rw [decF, decF, if_pos (.inl rfl), if_pos (.inl rfl)]
  | false => rw [m6.left hs]
 refine ⟨decF t v ks bd ix pr (q6.size : Int) b6, ?_, ?_, ?_⟩
 · unfold patch_Decode.r
   refine evN (by omega) ?_
   refine Ev.bind (a := (s, false)) (Ev.now _) ?_
   refine Ev.bind p1 ?_
   refine Ev.bind p2 ?_
   refine Ev.bind p3 ?_
   refine Ev.bind p4 ?_
   refine Ev.bind p5 ?_
   refine Ev.bind p6 ?_
   exact Ev.now _
 · rw [← hleft]
   unfold abugidaref25_Decode.r
   refine evN (by omega) ?_
   refine Ev.bind (a := (s, 0, false)) (Ev.now _) ?_
   refine Ev.bind r1 ?_
   refine Ev.bind r2 ?_
   refine Ev.bind r3 ?_
   refine Ev.bind r4 ?_
   refine Ev.bind r5 ?_
   refine Ev.bind r6 ?_
   exact Ev.now _
 · intro h0
   unfold decF at h0 ⊢
   by_cases c : b6 = true ∨ 0 < (q6.size : Int) ∨ ks.length ≠ 6
   · rw [if_pos c] at h0
     exact absurd h0 (by decide)
   · rw [if_neg c]
     have cb : b6 = false := by
      cases b6 with
      | true => exact absurd (.inl rfl) c
      | false => rfl
     subst cb
     have cq : q6 = ByteArray.empty := nil_of_size (by
      rcases Nat.eq_zero_or_pos q6.size with h | h
      · exact h
      · exact absurd (.inr (.inl (by omega))) c)
     have ck : ks.length = 6 := by
      by_cases h : ks.length = 6
      · exact h
      · exact absurd (.inr (.inr h)) c
     subst cq
     obtain ⟨rfl, e6⟩ := Texts_invE (m5.size hs) p6
     obtain ⟨rfl, e5⟩ := Int_invE (m4.size hs) p5
     obtain ⟨rfl, e4⟩ := Text_invE (m3.size hs) p4
     obtain ⟨rfl, e3⟩ := Ints_invE (m2.size hs) p3
     obtain ⟨rfl, e2⟩ := Int_invE (m1.size hs) p2
     obtain ⟨-, e1⟩ := Text_invE (fun _ => hs) p1
     obtain ⟨k0, k1, k2, k3, k4, k5, rfl⟩ := len6 ck
     have e : s = EncB (⟨t, v, ⟨k0, k1, k2⟩, ⟨k3, k4, k5⟩, bd, ix, pr⟩ : S55) := by
      rw [e1, e2, e3, e4, e5, e6]
      unfold EncB
      simp only [ByteArray.append_assoc, ByteArray.append_empty]
      rfl
     refine ⟨e, z1, z2, ⟨?_, ?_, ?_⟩, ⟨?_, ?_, ?_⟩, z4, z5, z6, y6, ?_⟩
     · exact y3 _ (by simp [rd])
     · exact y3 _ (by simp [rd])
     · exact y3 _ (by simp [rd])
     · exact y3 _ (by simp [rd])
     · exact y3 _ (by simp [rd])
     · exact y3 _ (by simp [rd])
     · exact e ▸ hs
theorem dec_ev (p : S55) (h : POk p) (hl : p.f6.length ≤ 1000) : Ev (fun k => patch_Decode.r k (EncB p)) (p, 0) := by
 have he := h.enc
 have h0 : ByteArray.empty.size = 0 := rfl
 have he2 := he
 unfold EncB at he2
 simp only [ByteArray.size_append] at he2
 have hd : decF p.f0 p.f1 (ks6 p) p.f4 p.f5 p.f6 ((ByteArray.empty.size : Nat) : Int) false = (p, 0) := if_neg (by simp [ks6])
 rw [← hd]
 unfold patch_Decode.r
 refine evN (by omega) ?_
 rw [show EncB p = TextB p.f0 ++ (IntB p.f1 ++ (IntsB (ks6 p) ++ (TextB p.f4 ++ (IntB p.f5 ++ (TextsB p.f6 ++ ByteArray.empty))))) by unfold EncB; simp only [ByteArray.append_assoc, ByteArray.append_empty]]
 refine Ev.bind (a := (_, false)) (Ev.now _) ?_
 refine Ev.bind (Text_ev p.f0 _ (by have := h.f0; omega) zag0) ?_
 refine Ev.bind (Reader_Int_ev p.f1 h.f1.1 h.f1.2 _) ?_
 refine Ev.bind (Ints_ev (ks6 p) _ (show (6 : Nat) ≤ 1000 by decide) h.ks zag0) ?_
 refine Ev.bind (Text_ev p.f4 _ (by have := h.f4; omega) zag0) ?_
 refine Ev.bind (Reader_Int_ev p.f5 h.f5.1 h.f5.2 _) ?_
 refine Ev.bind (Texts_ev p.f6 ByteArray.empty hl (fun t ht => by have := h.el t ht; omega) (by decide)) ?_
 exact Ev.now _
abbrev AskR := ByteArray × Int × (List (S52)) × Bool
def noAsk : AskR := ((⟨#[]⟩ : ByteArray), 0, ([] : List (S52)), false)
theorem KeyB_pos (k : S52) : 1 ≤ (KeyB k).size := by
 have := IntB_pos k.f0
 unfold KeyB
 rw [ByteArray.size_append, ByteArray.size_append]
 omega
theorem int_head {a b : Int} (ha : I64 a) (hb : I64 b) {x y : ByteArray} (h : IntB a ++ x = IntB b ++ y) : a = b ∧ x = y := by
 have h1 := Reader_Int_ev a ha.1 ha.2 x
 rw [h] at h1
 have := Ev.unique h1 (Reader_Int_ev b hb.1 hb.2 y)
 simp only [Prod.mk.injEq, and_true] at this
 exact this
theorem cancel (p : ByteArray) {x y : ByteArray} (h : p ++ x = p ++ y) : x = y := by
 have h1 := extract_app p x
 have h2 := extract_app p y
 rw [← h1, h, h2]
theorem toList_eq {a b : ByteArray} : a.toList = b.toList ↔ a = b := ⟨ext_of_toList, fun h => h ▸ rfl⟩
theorem askL : askW.toList = ([97, 115, 107] : List UInt8) := (toList_data _).trans rfl
theorem toldL : toldW.toList = ([116, 111, 108, 100] : List UInt8) := (toList_data _).trans rfl
theorem asked_end (s t font : ByteArray) (v n : Int) (keys : List S52) (q : ByteArray) (i : Int) (hs : s.size ≤ 9000) (hf : font.size ≤ 9000) (hv : I64 v) (hn : I64 n) (hk : ∀ k ∈ keys, KOk k)
 (hm : Sim q false s i false) (hpre : t.toList = ([97, 115, 107] : List UInt8) → s = join KeyB keys (HeadB font v n) ++ q) (hlen : keys.length ≤ 9000) (hle : n < 0 ∨ (keys.length : Int) ≤ n) (hge : ¬ (keys.length : Int) < n) :
 ∃ r : AskR, (t.toList = ([97, 115, 107] : List UInt8) → Ev (fun k => relay_Asked.j1 k font v keys n false q false) r) ∧ Ev (fun k => abugidaref35_Asked.j1 k s t font v n keys (keys.length : Int) false s i false) r ∧ (t.toList ≠ ([97, 115, 107] : List UInt8) → r = noAsk) ∧ r.2.2.1.length ≤ 9000 := by
 by_cases ht : t.toList = ([97, 115, 107] : List UInt8)
 · have hpre := hpre ht
   have hask := refAsk_ev font v keys hf hv hlen hk
   have hj : join KeyB keys (HeadB font v n) = ((TextB askW ++ TextB font) ++ IntB v) ++ (IntB n ++ join KeyB keys ByteArray.empty) := by rw [join_cons KeyB keys (HeadB font v n), HeadB, ByteArray.append_assoc]
   have ha : AskB font v keys = ((TextB askW ++ TextB font) ++ IntB v) ++ (IntB keys.length ++ join KeyB keys ByteArray.empty) := by rw [AskB, join_cons KeyB keys (HeadB font v keys.length), HeadB, ByteArray.append_assoc]
   have key : AskB font v keys = s ↔ ¬ n < 0 ∧ q.size = 0 := by
    constructor
    · intro h
      rw [hpre, hj, ha] at h
      have e1 : (((TextB askW ++ TextB font) ++ IntB v) ++ (IntB n ++ join KeyB keys ByteArray.empty)) ++ q = ((TextB askW ++ TextB font) ++ IntB v) ++ (IntB n ++ (join KeyB keys ByteArray.empty ++ q)) := by simp only [ByteArray.append_assoc]
      have h := cancel _ (h.trans e1)
      obtain ⟨h1, h2⟩ := int_head (by exact ⟨by omega, by omega⟩) hn h
      refine ⟨by omega, ?_⟩
      have := congrArg ByteArray.size h2
      rw [ByteArray.size_append] at this
      omega
    · rintro ⟨h1, h2⟩
      have hnl : n = (keys.length : Int) := by omega
      rw [hpre, nil_of_size h2, ByteArray.append_empty, AskB, hnl]
   by_cases c : ¬ n < 0 ∧ q.size = 0
   · refine ⟨(font, v, keys, true), fun _ => ?_, ?_, fun h => absurd ht h, hlen⟩
     · refine Ev.step (fun k => relay_Asked.j1.eq_2 ..) ?_
       refine evN (by decide) ?_
       refine Ev.bind (a := (false, q, false)) (Ev.now _) ?_
       refine evN Bool.false_ne_true ?_
       refine evN c.1 ?_
       refine Ev.bind (a := ((q.size : Int), q, false)) (Ev.now _) ?_
       refine evN (by show ¬ ((q.size : Int) > 0); omega) ?_
       exact Ev.now _
     · refine Ev.step (fun k => abugidaref35_Asked.j1.eq_2 ..) ?_
       refine evN (by decide) ?_
       refine evN (by decide) ?_
       refine evI ht ?_
       refine Ev.bind hask ?_
       refine evI (toList_eq.2 (key.2 c)) ?_
       exact Ev.now _
   · refine ⟨noAsk, fun _ => ?_, ?_, fun _ => rfl, Nat.zero_le _⟩
     · refine Ev.step (fun k => relay_Asked.j1.eq_2 ..) ?_
       refine evN (by decide) ?_
       refine Ev.bind (a := (false, q, false)) (Ev.now _) ?_
       refine evN Bool.false_ne_true ?_
       by_cases c1 : n < 0
       · exact evI c1 (Ev.now _)
       · refine evN c1 ?_
         refine Ev.bind (a := ((q.size : Int), q, false)) (Ev.now _) ?_
         refine evI (by show (q.size : Int) > 0; have : ¬ q.size = 0 := fun h => c ⟨c1, h⟩; omega) ?_
         exact Ev.now _
     · refine Ev.step (fun k => abugidaref35_Asked.j1.eq_2 ..) ?_
       refine evN (by decide) ?_
       refine evN (by decide) ?_
       refine evI ht ?_
       refine Ev.bind hask ?_
       refine evN (fun h => c (key.1 (toList_eq.1 h))) ?_
       exact Ev.now _
 · refine ⟨noAsk, fun h => absurd h ht, ?_, fun _ => rfl, Nat.zero_le _⟩
   refine Ev.step (fun k => abugidaref35_Asked.j1.eq_2 ..) ?_
   refine evN (by decide) ?_
   refine evN (by decide) ?_
   refine evN ht ?_
   exact Ev.now _
theorem asked_bad (s t font : ByteArray) (v n : Int) (keys : List S52) (q : ByteArray) (i : Int) : Ev (fun k => relay_Asked.l0 k font v keys n q true) noAsk ∧ Ev (fun k => abugidaref35_Asked.l0 k s t font v n keys (keys.length : Int) s i true) noAsk := by
 have h1 : Ev (fun k => relay_Asked.j1 k font v keys n false q true) noAsk := by
  refine Ev.step (fun k => relay_Asked.j1.eq_2 ..) ?_
  refine evN (by decide) ?_
  refine Ev.bind (a := (true, q, true)) (Ev.now _) ?_
  exact evI rfl (Ev.now _)
 have h2 : Ev (fun k => abugidaref35_Asked.j1 k s t font v n keys (keys.length : Int) false s i true) noAsk := by
  refine Ev.step (fun k => abugidaref35_Asked.j1.eq_2 ..) ?_
  refine evN (by decide) ?_
  exact evI rfl (Ev.now _)
 constructor
 · refine Ev.step (fun k => relay_Asked.l0.eq_2 ..) ?_
   by_cases c : (keys.length : Int) < n
   · refine evI c ?_
     refine Ev.bind (a := (true, q, true)) (Ev.now _) ?_
     exact h1
   · exact evN c h1
 · refine Ev.step (fun k => abugidaref35_Asked.l0.eq_2 ..) ?_
   by_cases c : (keys.length : Int) < n
   · exact evI c h2
   · exact evN c h2
theorem asked_loop (s t font : ByteArray) (v n : Int) (hs : s.size ≤ 9000) (hf : font.size ≤ 9000) (hv : I64 v) (hn : I64 n) (d : Nat) : ∀ (keys : List S52) (q : ByteArray) (b : Bool) (i : Int), (b = false → q.size < d) → (∀ k ∈ keys, KOk k) → Sim q b s i b →
 (b = false → t.toList = ([97, 115, 107] : List UInt8) → s = join KeyB keys (HeadB font v n) ++ q) → (b = false → keys.length + q.size ≤ 9000) → (n < 0 ∨ (keys.length : Int) ≤ n) →
 ∃ r : AskR, (t.toList = ([97, 115, 107] : List UInt8) → Ev (fun k => relay_Asked.l0 k font v keys n q b) r) ∧ Ev (fun k => abugidaref35_Asked.l0 k s t font v n keys (keys.length : Int) s i b) r ∧ (t.toList ≠ ([97, 115, 107] : List UInt8) → r = noAsk) ∧ r.2.2.1.length ≤ 9000 := by
 induction d with
 | zero =>
   intro keys q b i hd hk hm hpre hlen hle
   cases b with
   | false => exact absurd (hd rfl) (by omega)
   | true => exact ⟨noAsk, fun _ => (asked_bad s t font v n keys q i).1, (asked_bad s t font v n keys q i).2, fun _ => rfl, Nat.zero_le _⟩
 | succ d ih =>
   intro keys q b i hd hk hm hpre hlen hle
   cases b with
   | true => exact ⟨noAsk, fun _ => (asked_bad s t font v n keys q i).1, (asked_bad s t font v n keys q i).2, fun _ => rfl, Nat.zero_le _⟩
   | false =>
     have hl := hlen rfl
     have hd := hd rfl
     by_cases c : (keys.length : Int) < n
     · obtain ⟨x1, q1, i1, b1, p1, r1, m1, z1, -⟩ := Int_same s hs q false i hm
       obtain ⟨x2, q2, i2, b2, p2, r2, m2, z2, -⟩ := Int_same s hs q1 b1 i1 m1
       obtain ⟨x3, q3, i3, b3, p3, r3, m3, z3, -⟩ := Int_same s hs q2 b2 i2 m2
       have inv : b3 = false → q = KeyB ⟨x1, x2, x3⟩ ++ q3 := fun h => by
        subst h
        obtain ⟨rfl, e3⟩ := Int_invE (m2.size hs) p3
        obtain ⟨rfl, e2⟩ := Int_invE (m1.size hs) p2
        obtain ⟨-, e1⟩ := Int_invE (hm.size hs) p1
        rw [e1, e2, e3]
        unfold KeyB
        simp only [ByteArray.append_assoc]
       have hsz : b3 = false → q3.size + 1 ≤ q.size := fun h => by
        have h1 := congrArg ByteArray.size (inv h)
        rw [ByteArray.size_append] at h1
        have h2 := KeyB_pos ⟨x1, x2, x3⟩
        omega
       obtain ⟨r, h1, h2, h3, h4⟩ := ih (keys ++ [⟨x1, x2, x3⟩]) q3 b3 i3 (fun h => by have := hsz h; omega)
        (fun k hk' => by
         rcases List.mem_append.1 hk' with h | h
         · exact hk k h
         · rw [List.mem_singleton.1 h]; exact ⟨z1, z2, z3⟩) m3
        (fun h ht => by
         rw [hpre rfl ht, inv h, ← ByteArray.append_assoc]
         unfold join
         rw [List.foldl_append]
         rfl)
        (fun h => by have := hsz h; simp only [List.length_append, List.length_singleton]; omega) (.inr (by simp only [List.length_append, List.length_singleton]; omega))
       refine ⟨r, fun ht => ?_, ?_, h3, h4⟩
       · refine Ev.step (fun k => relay_Asked.l0.eq_2 ..) ?_
         refine evI c ?_
         refine Ev.bind (a := (false, q, false)) (Ev.now _) ?_
         refine Ev.step (fun k => relay_Asked.j1.eq_2 ..) ?_
         refine evI rfl ?_
         refine Ev.bind p1 ?_
         refine Ev.bind p2 ?_
         refine Ev.bind p3 ?_
         refine evI (by omega) ?_
         exact h1 ht
       · refine Ev.step (fun k => abugidaref35_Asked.l0.eq_2 ..) ?_
         refine evI c ?_
         refine Ev.step (fun k => abugidaref35_Asked.j1.eq_2 ..) ?_
         refine evI rfl ?_
         refine Ev.bind r1 ?_
         refine Ev.bind r2 ?_
         refine Ev.bind r3 ?_
         refine evI (by omega) ?_
         rw [show wrap64 ((keys.length : Int) + 1) = (((keys ++ [(⟨x1, x2, x3⟩ : S52)]).length : Nat) : Int) by simp only [List.length_append, List.length_singleton]; exact w64 (by omega) (by omega)]
         exact h2
     · obtain ⟨r, h1, h2, h3, h4⟩ := asked_end s t font v n keys q i hs hf hv hn hk hm (hpre rfl) (by omega) hle c
       refine ⟨r, fun ht => ?_, ?_, h3, h4⟩
       · refine Ev.step (fun k => relay_Asked.l0.eq_2 ..) ?_
         refine evN c ?_
         exact h1 ht
       · refine Ev.step (fun k => abugidaref35_Asked.l0.eq_2 ..) ?_
         refine evN c ?_
         exact h2
theorem Asked_same (s : ByteArray) (hs : s.size ≤ 9000) : ∃ r : AskR, Ev (fun k => relay_Asked.f k s) r ∧ Ev (fun k => abugidaref35_Asked.f k s) r ∧ r.2.2.1.length ≤ 9000 := by
 obtain ⟨t, q1, i1, b1, p1, r1, m1, z1⟩ := Text_same2 s hs s false 0 (Sim_start s)
 obtain ⟨font, q2, i2, b2, p2, r2, m2, z2⟩ := Text_same2 s hs q1 b1 i1 m1
 obtain ⟨v, q3, i3, b3, p3, r3, m3, z3, -⟩ := Int_same s hs q2 b2 i2 m2
 obtain ⟨n, q4, i4, b4, p4, r4, m4, z4, -⟩ := Int_same s hs q3 b3 i3 m3
 have inv : b4 = false → t.toList = ([97, 115, 107] : List UInt8) → s = HeadB font v n ++ q4 := fun h ht => by
  subst h
  obtain ⟨rfl, e4⟩ := Int_invE (m3.size hs) p4
  obtain ⟨rfl, e3⟩ := Int_invE (m2.size hs) p3
  obtain ⟨rfl, e2⟩ := Text_invE (m1.size hs) p2
  obtain ⟨-, e1⟩ := Text_invE (fun _ => hs) p1
  have et : t = askW := toList_eq.1 (ht.trans askL.symm)
  rw [e1, e2, e3, e4, et]
  unfold HeadB
  simp only [ByteArray.append_assoc]
 obtain ⟨r, h1, h2, h3, h4⟩ := asked_loop s t font v n hs z2 z3 z4 (9001) [] q4 b4 i4 (fun h => by have := m4.size hs h; omega) (fun k hk => by simp at hk) m4 (fun h ht => inv h ht) (fun h => by have := m4.size hs h; simp; omega) (by simp only [List.length_nil]; omega)
 refine ⟨r, ?_, ?_, h4⟩
 · unfold relay_Asked.f
   refine Ev.bind (a := (s, false)) (Ev.now _) ?_
   refine Ev.bind p1 ?_
   by_cases ht : t.toList = ([97, 115, 107] : List UInt8)
   · refine evI ht ?_
     refine Ev.bind p2 ?_
     refine Ev.bind p3 ?_
     refine Ev.bind p4 ?_
     exact h1 ht
   · refine evN ht ?_
     rw [h3 ht]
     exact Ev.now _
 · unfold abugidaref35_Asked.f
   refine Ev.bind (a := (s, 0, false)) (Ev.now _) ?_
   refine Ev.bind r1 ?_
   refine Ev.bind r2 ?_
   refine Ev.bind r3 ?_
   refine Ev.bind r4 ?_
   exact h2
theorem asked_ev_loop (font : ByteArray) (v : Int) (l : List S52) (hl : l.length ≤ 9000) (h : ∀ k ∈ l, KOk k) : ∀ (d i : Nat), l.length - i = d → i ≤ l.length → Ev (fun k => relay_Asked.l0 k font v (l.take i) (l.length : Int) (join KeyB (l.drop i) ByteArray.empty) false) (font, v, l, true)
 | 0, i, hd, hi => by
   rw [List.take_of_length_le (by omega), List.drop_of_length_le (by omega)]
   refine Ev.step (fun k => relay_Asked.l0.eq_2 ..) ?_
   refine evN (by omega) ?_
   refine Ev.step (fun k => relay_Asked.j1.eq_2 ..) ?_
   refine evN (by decide) ?_
   refine Ev.bind (a := (false, ByteArray.empty, false)) (Ev.now _) ?_
   refine evN (by decide) ?_
   refine evN (by omega) ?_
   refine Ev.bind (a := (0, ByteArray.empty, false)) (Ev.now _) ?_
   refine evN (by decide) ?_
   exact Ev.now _
 | d + 1, i, hd, hi => by
   obtain ⟨x, hx⟩ := get_some (l := l) (i := i) (by omega)
   have x0 := h x (List.mem_of_getElem? hx)
   have hil : i < l.length := by omega
   have hxe : l[i] = x := by rw [List.getElem?_eq_getElem hil] at hx; exact Option.some.inj hx
   have hdrop : join KeyB (l.drop i) ByteArray.empty = IntB x.f0 ++ (IntB x.f1 ++ (IntB x.f2 ++ join KeyB (l.drop (i + 1)) ByteArray.empty)) := by
    rw [List.drop_eq_getElem_cons hil, hxe, show join KeyB (x :: l.drop (i + 1)) ByteArray.empty = join KeyB (l.drop (i + 1)) (ByteArray.empty ++ KeyB x) from rfl, join_cons KeyB (l.drop (i + 1)) (ByteArray.empty ++ KeyB x), ByteArray.empty_append]
    unfold KeyB
    simp only [ByteArray.append_assoc]
   have ih := asked_ev_loop font v l hl h d (i + 1) (by omega) (by omega)
   have htk : (l.take (i + 1)) = l.take i ++ [x] := by rw [List.take_add_one, hx]; rfl
   have hlt : (l.take i).length = i := by rw [List.length_take]; omega
   refine Ev.step (fun k => relay_Asked.l0.eq_2 ..) ?_
   refine evI (by rw [hlt]; omega) ?_
   refine Ev.bind (a := (false, join KeyB (l.drop i) ByteArray.empty, false)) (Ev.now _) ?_
   refine Ev.step (fun k => relay_Asked.j1.eq_2 ..) ?_
   refine evI rfl ?_
   rw [hdrop]
   refine Ev.bind (Reader_Int_ev x.f0 x0.a.1 x0.a.2 _) ?_
   refine Ev.bind (Reader_Int_ev x.f1 x0.b.1 x0.b.2 _) ?_
   refine Ev.bind (Reader_Int_ev x.f2 x0.c.1 x0.c.2 _) ?_
   refine evI (by rw [hlt]; omega) ?_
   rw [htk] at ih
   exact ih
theorem Asked_ev (f : ByteArray) (v : Int) (ks : List S52) (hf : f.size ≤ 9000) (hv : I64 v) (hl : ks.length ≤ 9000) (h : ∀ k ∈ ks, KOk k) : Ev (fun k => relay_Asked.f k (AskB f v ks)) (f, v, ks, true) := by
 have hz := join_size KeyB 30 ks ByteArray.empty (fun k hk => KeyB_size (h k hk))
 have h0 : ByteArray.empty.size = 0 := rfl
 have h2 := TextB_size f (by omega)
 have h3 := IntB_small v hv.1 hv.2
 have h4 := IntB_small ks.length (by omega) (by omega)
 have e : AskB f v ks = TextB askW ++ (TextB f ++ (IntB v ++ (IntB ks.length ++ join KeyB ks ByteArray.empty))) := by
  rw [AskB, join_cons KeyB ks (HeadB f v ks.length), HeadB]
  simp only [ByteArray.append_assoc]
 rw [e]
 unfold relay_Asked.f
 refine Ev.bind (a := (_, false)) (Ev.now _) ?_
 refine Ev.bind (Text_ev askW _ (by decide) zag0) ?_
 refine evI askL ?_
 refine Ev.bind (Text_ev f _ (by omega) zag0) ?_
 refine Ev.bind (Reader_Int_ev v hv.1 hv.2 _) ?_
 refine Ev.bind (Reader_Int_ev ks.length (by omega) (by omega) _) ?_
 exact asked_ev_loop f v ks hl h ks.length 0 (by omega) (by omega)
theorem Asked_told (l : List S55) (hz : (TextsB (l.map EncB)).size ≤ 100000000) : Ev (fun k => relay_Asked.f k (ToldB l)) noAsk := by
 unfold relay_Asked.f ToldB
 refine Ev.bind (a := (_, false)) (Ev.now _) ?_
 refine Ev.bind (Text_ev toldW _ (by decide) hz) ?_
 refine evN (by show ¬ toldW.toList = _; rw [toldL]; decide) ?_
 exact Ev.now _
abbrev TellR := (List (S55)) × Bool
def noTell : TellR := (([] : List (S55)), false)
theorem decF_ev {k0 : Nat → ByteArray → Option (S55 × Int)} {t : ByteArray} {x : S55 × Int} (h : Ev (fun k => k0 k t) x) : Ev (fun k => (k0 k t).bind fun x => some (flatP x)) (flatP x) := Ev.bind h (Ev.now _)
theorem take_map {texts : List ByteArray} {out : List S55} {i : Nat} {p : S55} (h : texts.take i = out.map EncB) (hx : texts[i]? = some (EncB p)) : texts.take (i + 1) = (out ++ [p]).map EncB := by
 rw [List.take_add_one, hx, h]
 simp
theorem tell_loop (s : ByteArray) (texts : List ByteArray) (hs : s = TextB toldW ++ TextsB texts) (hl : texts.length ≤ 9000) (ht : ∀ t ∈ texts, t.size ≤ 9000) : ∀ (d i : Nat) (out : List S55), texts.length - i = d → i ≤ texts.length → texts.take i = out.map EncB → (∀ p ∈ out, POk p) →
 ∃ r : TellR, Ev (fun k => relay_Tell.l0 k out texts (texts.length : Int) (i : Int)) r ∧ Ev (fun k => abugidaref35_Tell.l0 k s texts out (i : Int)) r ∧ (r.1.length ≤ 9000 ∧ ∀ p ∈ r.1, POk p)
 | 0, i, out, hd, hi, hto, hp => by
   have hlen : out.length ≤ 9000 := by
    have := congrArg List.length hto
    rw [List.length_take, List.length_map] at this
    omega
   have he : ToldB out = s := by rw [hs, ToldB, ← hto, List.take_of_length_le (by omega)]
   refine ⟨(out, true), ?_, ?_, hlen, hp⟩
   · refine Ev.step (fun k => relay_Tell.l0.eq_2 ..) ?_
     refine evN (by omega) ?_
     exact Ev.now _
   · refine Ev.step (fun k => abugidaref35_Tell.l0.eq_2 ..) ?_
     refine evN (by omega) ?_
     refine Ev.bind (refTold_ev out hlen hp) ?_
     refine evI (by rw [he]) ?_
     exact Ev.now _
 | d + 1, i, out, hd, hi, hto, hp => by
   have hlen : out.length ≤ 9000 := by
    have := congrArg List.length hto
    rw [List.length_take, List.length_map] at this
    omega
   obtain ⟨t, htx⟩ := get_some (l := texts) (i := i) (by omega)
   have ht9 := ht t (List.mem_of_getElem? htx)
   obtain ⟨x, h1, h2, h3⟩ := dec_same t ht9
   by_cases c : x.2 = 0
   · obtain ⟨e, hx⟩ := h3 c
     obtain ⟨r, g1, g2, g3⟩ := tell_loop s texts hs hl ht d (i + 1) (out ++ [x.1]) (by omega) (by omega) (take_map hto (e ▸ htx)) (fun p hp' => by
      rcases List.mem_append.1 hp' with h | h
      · exact hp p h
      · rw [List.mem_singleton.1 h]; exact hx)
     refine ⟨r, ?_, ?_, g3⟩
     · refine Ev.step (fun k => relay_Tell.l0.eq_2 ..) ?_
       refine evI (by omega) ?_
       refine evI (by omega) ?_
       refine evI (by omega) ?_
       rw [rd_some' htx]
       refine Ev.bind (decF_ev h1) ?_
       refine evI c ?_
       refine evI (by omega) ?_
       rw [show wrap64 ((i : Int) + 1) = ((i + 1 : Nat) : Int) from w64 (by omega) (by omega)]
       exact g1
     · refine Ev.step (fun k => abugidaref35_Tell.l0.eq_2 ..) ?_
       refine evI (by omega) ?_
       refine evI (by omega) ?_
       rw [rd_some' htx]
       refine Ev.bind (decF_ev h2) ?_
       refine evI c ?_
       refine evI (by omega) ?_
       rw [show wrap64 ((i : Int) + 1) = ((i + 1 : Nat) : Int) from w64 (by omega) (by omega)]
       exact g2
   · refine ⟨noTell, ?_, ?_, Nat.zero_le _, fun p hp => absurd hp (by simp [noTell])⟩
     · refine Ev.step (fun k => relay_Tell.l0.eq_2 ..) ?_
       refine evI (by omega) ?_
       refine evI (by omega) ?_
       refine evI (by omega) ?_
       rw [rd_some' htx]
       refine Ev.bind (decF_ev h1) ?_
       refine evN c ?_
       exact Ev.now _
     · refine Ev.step (fun k => abugidaref35_Tell.l0.eq_2 ..) ?_
       refine evI (by omega) ?_
       refine evI (by omega) ?_
       rw [rd_some' htx]
       refine Ev.bind (decF_ev h2) ?_
       refine evN c ?_
       exact Ev.now _
theorem tell_no (texts : List ByteArray) : Ev (fun k => relay_Tell.j0 k ([] : List (S55)) texts true) noTell := by
 refine Ev.step (fun k => relay_Tell.j0.eq_2 ..) ?_
 exact evI rfl (Ev.now _)
theorem refTell_no (s : ByteArray) (texts : List ByteArray) : Ev (fun k => abugidaref35_Tell.j0 k s texts true) noTell := by
 refine Ev.step (fun k => abugidaref35_Tell.j0.eq_2 ..) ?_
 exact evI rfl (Ev.now _)
theorem Tell_same (s : ByteArray) (hs : s.size ≤ 9000) : ∃ r : TellR, Ev (fun k => relay_Tell.f k s) r ∧ Ev (fun k => abugidaref35_Tell.f k s) r ∧ (r.1.length ≤ 9000 ∧ ∀ p ∈ r.1, POk p) := by
 obtain ⟨t, q1, i1, b1, p1, r1, m1, z1⟩ := Text_same2 s hs s false 0 (Sim_start s)
 obtain ⟨texts, q2, i2, b2, p2, r2, m2, z2, y2⟩ := Texts_same2 s hs q1 b1 i1 m1
 cases b2 with
 | true =>
   refine ⟨noTell, ?_, ?_, Nat.zero_le _, fun p hp => absurd hp (by simp [noTell])⟩
   · unfold relay_Tell.f
     refine Ev.bind (a := (s, false)) (Ev.now _) ?_
     refine Ev.bind p1 ?_
     refine Ev.bind p2 ?_
     by_cases ht : t.toList = ([116, 111, 108, 100] : List UInt8)
     · refine evI ht ?_
       refine Ev.bind (a := (true, q2, true)) (Ev.now _) ?_
       exact evI rfl (tell_no texts)
     · exact evN ht (tell_no texts)
   · unfold abugidaref35_Tell.f
     refine Ev.bind (a := (s, 0, false)) (Ev.now _) ?_
     refine Ev.bind r1 ?_
     refine Ev.bind r2 ?_
     exact evI rfl (refTell_no s texts)
 | false =>
   have hleft := m2.left hs
   have hL : Ev (fun _ : Nat => abugidaref02_Reader_Left.f s i2 false) ((q2.size : Int), s, i2, false) := by
    refine Ev.congr (fun _ => ?_) (Ev.now _)
    simp [abugidaref02_Reader_Left.f, abugidaref02_Reader_Bad.f, hleft]
   by_cases ht : t.toList = ([116, 111, 108, 100] : List UInt8)
   · by_cases hq : 0 < q2.size
     · refine ⟨noTell, ?_, ?_, Nat.zero_le _, fun p hp => absurd hp (by simp [noTell])⟩
       · unfold relay_Tell.f
         refine Ev.bind (a := (s, false)) (Ev.now _) ?_
         refine Ev.bind p1 ?_
         refine Ev.bind p2 ?_
         refine evI ht ?_
         refine Ev.bind (a := (false, q2, false)) (Ev.now _) ?_
         refine evN Bool.false_ne_true ?_
         refine Ev.bind (a := ((q2.size : Int), q2, false)) (Ev.now _) ?_
         show Ev (fun k => relay_Tell.j0 k ([] : List (S55)) texts (decide ((q2.size : Int) > 0))) _
         rw [show decide ((q2.size : Int) > 0) = true from decide_eq_true (by omega)]
         exact tell_no texts
       · unfold abugidaref35_Tell.f
         refine Ev.bind (a := (s, 0, false)) (Ev.now _) ?_
         refine Ev.bind r1 ?_
         refine Ev.bind r2 ?_
         refine evN Bool.false_ne_true ?_
         refine Ev.bind hL ?_
         exact evI (by show (q2.size : Int) > 0; omega) (refTell_no s texts)
     · have hq0 : q2 = ByteArray.empty := nil_of_size (by omega)
       subst hq0
       obtain ⟨rfl, e2⟩ := Texts_invE (m1.size hs) p2
       obtain ⟨-, e1⟩ := Text_invE (fun _ => hs) p1
       have et : t = toldW := toList_eq.1 (ht.trans toldL.symm)
       have es : s = TextB toldW ++ TextsB texts := by rw [e1, e2, et, ByteArray.append_empty]
       obtain ⟨r, g1, g2, g3⟩ := tell_loop s texts es z2 y2 texts.length 0 [] (by omega) (by omega) rfl (fun p hp => by simp at hp)
       refine ⟨r, ?_, ?_, g3⟩
       · unfold relay_Tell.f
         refine Ev.bind (a := (s, false)) (Ev.now _) ?_
         refine Ev.bind p1 ?_
         refine Ev.bind p2 ?_
         refine evI ht ?_
         refine Ev.bind (a := (false, ByteArray.empty, false)) (Ev.now _) ?_
         refine evN Bool.false_ne_true ?_
         refine Ev.bind (a := (0, ByteArray.empty, false)) (Ev.now _) ?_
         show Ev (fun k => relay_Tell.j0 k ([] : List (S55)) texts (decide ((0 : Int) > 0))) _
         rw [show decide ((0 : Int) > 0) = false from rfl]
         refine Ev.step (fun k => relay_Tell.j0.eq_2 ..) ?_
         exact evN Bool.false_ne_true g1
       · unfold abugidaref35_Tell.f
         refine Ev.bind (a := (s, 0, false)) (Ev.now _) ?_
         refine Ev.bind r1 ?_
         refine Ev.bind r2 ?_
         refine evN Bool.false_ne_true ?_
         refine Ev.bind hL ?_
         refine evN (by show ¬ ((ByteArray.empty.size : Nat) : Int) > 0; decide) ?_
         show Ev (fun k => abugidaref35_Tell.j0 k s texts (t.toList != ([116, 111, 108, 100] : List UInt8))) _
         rw [show (t.toList != ([116, 111, 108, 100] : List UInt8)) = false by rw [ht]; rfl]
         refine Ev.step (fun k => abugidaref35_Tell.j0.eq_2 ..) ?_
         exact evN Bool.false_ne_true g2
   · refine ⟨noTell, ?_, ?_, Nat.zero_le _, fun p hp => absurd hp (by simp [noTell])⟩
     · unfold relay_Tell.f
       refine Ev.bind (a := (s, false)) (Ev.now _) ?_
       refine Ev.bind p1 ?_
       refine Ev.bind p2 ?_
       exact evN ht (tell_no texts)
     · unfold abugidaref35_Tell.f
       refine Ev.bind (a := (s, 0, false)) (Ev.now _) ?_
       refine Ev.bind r1 ?_
       refine Ev.bind r2 ?_
       refine evN Bool.false_ne_true ?_
       refine Ev.bind hL ?_
       by_cases hq : (q2.size : Int) > 0
       · exact evI hq (refTell_no s texts)
       · refine evN hq ?_
         show Ev (fun k => abugidaref35_Tell.j0 k s texts (t.toList != ([116, 111, 108, 100] : List UInt8))) _
         rw [show (t.toList != ([116, 111, 108, 100] : List UInt8)) = true from bne_iff_ne.2 ht]
         exact refTell_no s texts
theorem tell_ev_loop (l : List S55) (hl : l.length ≤ 9000) (h : ∀ p ∈ l, POk p ∧ p.f6.length ≤ 1000) : ∀ (d i : Nat), l.length - i = d → i ≤ l.length → Ev (fun k => relay_Tell.l0 k (l.take i) (l.map EncB) (l.length : Int) (i : Int)) (l, true)
 | 0, i, hd, hi => by
   rw [List.take_of_length_le (by omega)]
   refine Ev.step (fun k => relay_Tell.l0.eq_2 ..) ?_
   refine evN (by omega) ?_
   exact Ev.now _
 | d + 1, i, hd, hi => by
   obtain ⟨x, hx⟩ := get_some (l := l) (i := i) (by omega)
   have x0 := h x (List.mem_of_getElem? hx)
   have ih := tell_ev_loop l hl h d (i + 1) (by omega) (by omega)
   have htk : (l.take (i + 1)) = l.take i ++ [x] := by rw [List.take_add_one, hx]; rfl
   have hlt : (l.take i).length = i := by rw [List.length_take]; omega
   have hmx : (l.map EncB)[i]? = some (EncB x) := by rw [List.getElem?_map, hx]; rfl
   refine Ev.step (fun k => relay_Tell.l0.eq_2 ..) ?_
   refine evI (by omega) ?_
   refine evI (by omega) ?_
   refine evI (by rw [List.length_map]; omega) ?_
   rw [rd_some' hmx]
   refine Ev.bind (decF_ev (dec_ev x x0.1 x0.2)) ?_
   refine evI rfl ?_
   refine evI (by rw [hlt]; omega) ?_
   rw [show wrap64 ((i : Int) + 1) = ((i + 1 : Nat) : Int) from w64 (by omega) (by omega)]
   rw [htk] at ih
   exact ih
theorem Tell_ev (l : List S55) (hl : l.length ≤ 1000) (h : ∀ p ∈ l, POk p ∧ p.f6.length ≤ 1000) : Ev (fun k => relay_Tell.f k (ToldB l)) (l, true) := by
 have h0 : ByteArray.empty.size = 0 := rfl
 have hz := TextsB_any (l.map EncB) (by rw [List.length_map]; omega) (enc_mem (fun p hp => (h p hp).1))
 rw [show ToldB l = TextB toldW ++ (TextsB (l.map EncB) ++ ByteArray.empty) by rw [ToldB, ByteArray.append_empty]]
 unfold relay_Tell.f
 refine Ev.bind (a := (_, false)) (Ev.now _) ?_
 refine Ev.bind (Text_ev toldW _ (by decide) zag1) ?_
 refine Ev.bind (Texts_ev (l.map EncB) ByteArray.empty (by rw [List.length_map]; exact hl) (fun t ht => by have := enc_mem (fun p hp => (h p hp).1) t ht; omega) (by decide)) ?_
 refine evI toldL ?_
 refine Ev.bind (a := (false, ByteArray.empty, false)) (Ev.now _) ?_
 refine evN Bool.false_ne_true ?_
 refine Ev.bind (a := (0, ByteArray.empty, false)) (Ev.now _) ?_
 show Ev (fun k => relay_Tell.j0 k ([] : List (S55)) (l.map EncB) (decide ((0 : Int) > 0))) _
 rw [show decide ((0 : Int) > 0) = false from rfl]
 refine Ev.step (fun k => relay_Tell.j0.eq_2 ..) ?_
 refine evN Bool.false_ne_true ?_
 have := tell_ev_loop l (by omega) h l.length 0 (by omega) (by omega)
 rw [List.length_map]
 exact this
theorem Tell_ask (f : ByteArray) (v : Int) (ks : List S52) (hz : (AskB f v ks).size ≤ 9000) : Ev (fun k => relay_Tell.f k (AskB f v ks)) noTell := by
 have e : AskB f v ks = TextB askW ++ (TextB f ++ (IntB v ++ (IntB ks.length ++ join KeyB ks ByteArray.empty))) := by
  rw [AskB, join_cons KeyB ks (HeadB f v ks.length), HeadB]
  simp only [ByteArray.append_assoc]
 rw [e] at hz ⊢
 rw [ByteArray.size_append] at hz
 obtain ⟨texts, q2, i2, b2, p2, r2, m2, z2, y2⟩ := Texts_same2 (TextB f ++ (IntB v ++ (IntB ks.length ++ join KeyB ks ByteArray.empty))) (by omega) _ false 0 (Sim_start _)
 unfold relay_Tell.f
 refine Ev.bind (a := (_, false)) (Ev.now _) ?_
 refine Ev.bind (Text_ev askW _ (by decide) (by omega)) ?_
 refine Ev.bind p2 ?_
 refine evN (by show ¬ askW.toList = _; rw [askL]; decide) ?_
 exact tell_no texts
end Go.Proofs.Ythokkeljfdfppaa.Pure

