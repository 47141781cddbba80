/- Several texts of this claim, one behind the other: RlP, RlQ, RlR, RlT, RlU. -/
import Derived.Test.YthokkeljfdfppaaMgV
import Derived.Test.YthokkeljfdfppaaPby7
import Derived.Test.YthokkeljfdfppaaPby6
import Derived.Test.YthokkeljfdfppaaPby4
/- What is read is what was written: the readers turned round. -/
set_option linter.unusedVariables false
set_option linter.unusedSimpArgs false
namespace Go.Proofs.Ythokkeljfdfppaa.Pure
open Go.RowKit Go.Proofs.Ythokkeljfdfppaa.Pb Go.Proofs.YthokkeljfdfppaaW.PrintWords Go.Proofs.YthokkeljfdfppaaW.PrintLast Go.Proofs.YthokkeljfdfppaaW.PrintMore Go.Proofs.Ythokkeljfdfppaa.Gw Go.Proofs.Ythokkeljfdfppaa.Rl
theorem ext_all (t : ByteArray) : t.extract 0 t.size = t := by
  apply ByteArray.ext
  simp
theorem Sim_start (q : ByteArray) : Sim q false q 0 false := ⟨rfl, fun _ => ⟨0, rfl, Nat.zero_le _, (ext_all q).symm⟩⟩
end Go.Proofs.Ythokkeljfdfppaa.Pure

/- What is written: requests, patches, lists of patches; both write the same. -/
set_option linter.unusedVariables false
set_option linter.unusedSimpArgs false
namespace Go.Proofs.Ythokkeljfdfppaa.Pure
open Go.RowKit Go.Proofs.Ythokkeljfdfppaa.Pb Go.Proofs.YthokkeljfdfppaaW.PrintWords Go.Proofs.YthokkeljfdfppaaW.PrintLast Go.Proofs.YthokkeljfdfppaaW.PrintMore Go.Proofs.Ythokkeljfdfppaa.Gw Go.Proofs.Ythokkeljfdfppaa.Rl
def I64 (x : Int) : Prop := -9223372036854775808 ≤ x ∧ x ≤ 9223372036854775807
structure KOk (k : S52) : Prop where
  a : I64 k.f0
  b : I64 k.f1
  c : I64 k.f2
def KeyB (k : S52) : ByteArray := (IntB k.f0 ++ IntB k.f1) ++ IntB k.f2
def askW : ByteArray := ⟨#[97, 115, 107]⟩
def toldW : ByteArray := ⟨#[116, 111, 108, 100]⟩
def HeadB (f : ByteArray) (v : Int) (n : Int) : ByteArray := ((TextB askW ++ TextB f) ++ IntB v) ++ IntB n
def AskB (f : ByteArray) (v : Int) (ks : List S52) : ByteArray := join KeyB ks (HeadB f v ks.length)
def ks6 (p : S55) : List Int := [p.f2.f0, p.f2.f1, p.f2.f2, p.f3.f0, p.f3.f1, p.f3.f2]
def EncB (p : S55) : ByteArray := ((((TextB p.f0 ++ IntB p.f1) ++ IntsB (ks6 p)) ++ TextB p.f4) ++ IntB p.f5) ++ TextsB p.f6
def ToldB (l : List S55) : ByteArray := TextB toldW ++ TextsB (l.map EncB)
structure POk (p : S55) : Prop where
  f0 : p.f0.size ≤ 9000
  f1 : I64 p.f1
  f2 : KOk p.f2
  f3 : KOk p.f3
  f4 : p.f4.size ≤ 9000
  f5 : I64 p.f5
  f6 : p.f6.length ≤ 9000
  el : ∀ t ∈ p.f6, t.size ≤ 9000
  enc : (EncB p).size ≤ 9000
theorem POk.ks {p : S55} (h : POk p) : Ok64 (ks6 p) := fun x hx => by
  simp only [ks6, List.mem_cons, List.not_mem_nil, or_false] at hx
  rcases hx with rfl | rfl | rfl | rfl | rfl | rfl
  · exact h.f2.a
  · exact h.f2.b
  · exact h.f2.c
  · exact h.f3.a
  · exact h.f3.b
  · exact h.f3.c
theorem KeyB_size {k : S52} (h : KOk k) : (KeyB k).size ≤ 30 := by
  have h1 := IntB_small k.f0 h.a.1 h.a.2
  have h2 := IntB_small k.f1 h.b.1 h.b.2
  have h3 := IntB_small k.f2 h.c.1 h.c.2
  unfold KeyB
  rw [ByteArray.size_append, ByteArray.size_append]
  omega
theorem HeadB_size {f : ByteArray} {v n : Int} (hf : f.size ≤ 9000) (hv : I64 v) (hn : I64 n) : (HeadB f v n).size ≤ 9100 := by
  have h1 := TextB_size askW (by decide)
  have h2 := TextB_size f (by omega)
  have h3 := IntB_small v hv.1 hv.2
  have h4 := IntB_small n hn.1 hn.2
  have h5 : askW.size = 3 := rfl
  unfold HeadB
  rw [ByteArray.size_append, ByteArray.size_append, ByteArray.size_append]
  omega
theorem rd52 {l : List S52} {i : Nat} {s : S52} (h : l[i]? = some s) : rd_T52 l (i : Int) = s := by
  unfold rd_T52
  rw [List.getD_eq_getElem?_getD, Int.toNat_natCast, h]
  rfl
theorem rd55 {l : List S55} {i : Nat} {s : S55} (h : l[i]? = some s) : rd_T55 l (i : Int) = s := by
  unfold rd_T55
  rw [List.getD_eq_getElem?_getD, Int.toNat_natCast, h]
  rfl
theorem Ask_loop (l : List S52) (hl : l.length ≤ 9000) (h : ∀ k ∈ l, KOk k) (H : ByteArray) (hH : H.size ≤ 9100) (d : Nat) : ∀ i : Nat, l.length - i = d → i ≤ l.length → Ev (fun k => relay_Ask.l0 k (join KeyB (l.take i) H) l (l.length : Int) i) (join KeyB l H) := by
  induction d with
  | zero =>
    intro i hd hi
    refine Ev.step (fun k => relay_Ask.l0.eq_2 ..) ?_
    refine evN (by omega) ?_
    rw [List.take_of_length_le (by omega)]
    exact Ev.now _
  | succ d ih =>
    intro i hd hi
    obtain ⟨x, hx⟩ := get_some (l := l) (i := i) (by omega)
    have x0 := h x (List.mem_of_getElem? hx)
    have hz := join_take_size KeyB 30 l i H (fun y hy => KeyB_size (h y hy)) hi
    have hk := KeyB_size x0
    have h1 := IntB_small x.f0 x0.a.1 x0.a.2
    have h2 := IntB_small x.f1 x0.b.1 x0.b.2
    have h3 := IntB_small x.f2 x0.c.1 x0.c.2
    refine Ev.step (fun k => relay_Ask.l0.eq_2 ..) ?_
    refine evI (by omega) ?_
    refine evI (by omega) ?_
    refine evI (by omega) ?_
    rw [rd52 hx]
    refine Ev.bind (wire_Int_ev x.f0 x0.a.1 x0.a.2) ?_
    refine Ev.bind (wire_Int_ev x.f1 x0.b.1 x0.b.2) ?_
    refine evI (by omega) ?_
    refine Ev.bind (wire_Int_ev x.f2 x0.c.1 x0.c.2) ?_
    refine evI (by rw [ByteArray.size_append]; omega) ?_
    refine evI (by show (join KeyB (l.take i) H).size + (KeyB x).size ≤ _; omega) ?_
    rw [show wrap64 ((i : Int) + 1) = ((i + 1 : Nat) : Int) from w64 (by omega) (by omega)]
    show Ev (fun k => relay_Ask.l0 k (join KeyB (l.take i) H ++ KeyB x) l (l.length : Int) ((i + 1 : Nat) : Int)) _
    rw [← join_snoc KeyB l i x hx H]
    exact ih (i + 1) (by omega) (by omega)
theorem Ask_ev (f : ByteArray) (v : Int) (ks : List S52) (hf : f.size ≤ 9000) (hv : I64 v) (hl : ks.length ≤ 9000) (h : ∀ k ∈ ks, KOk k) : Ev (fun k => relay_Ask.f k f v ks) (AskB f v ks) := by
  have h1 := TextB_size askW (by decide)
  have h2 := TextB_size f (by omega)
  have h3 := IntB_small v hv.1 hv.2
  have h4 := IntB_small ks.length (by omega) (by omega)
  have h5 : askW.size = 3 := rfl
  unfold relay_Ask.f
  refine Ev.bind (wire_Text_ev askW (by decide)) ?_
  refine Ev.bind (wire_Text_ev f (by omega)) ?_
  refine evI (by omega) ?_
  refine Ev.bind (wire_Int_ev v hv.1 hv.2) ?_
  refine evI (by rw [ByteArray.size_append]; omega) ?_
  refine Ev.bind (wire_Int_ev ks.length (by omega) (by omega)) ?_
  refine evI (by rw [ByteArray.size_append, ByteArray.size_append]; omega) ?_
  exact Ask_loop ks hl h (HeadB f v ks.length) (HeadB_size hf hv ⟨by omega, by omega⟩) ks.length 0 (by omega) (by omega)
theorem TextsB_any (l : List ByteArray) (hl : l.length ≤ 9000) (h : ∀ t ∈ l, t.size ≤ 9000) : (TextsB l).size ≤ 90000000 := by
  have h1 := IntB_small (l.length : Int) (by omega) (by omega)
  have h2 := join_size TextB 9010 l (IntB l.length) (fun t ht => Nat.le_trans (TextB_size t (by have := h t ht; omega)) (by have := h t ht; omega))
  unfold TextsB
  omega
theorem enc_sizes {p : S55} (h : POk p) : (TextB p.f0).size ≤ 9010 ∧ (IntB p.f1).size ≤ 10 ∧ (IntsB (ks6 p)).size ≤ 70 ∧ (TextB p.f4).size ≤ 9010 ∧ (IntB p.f5).size ≤ 10 ∧ (TextsB p.f6).size ≤ 90000000 := by
  have h1 := TextB_size p.f0 (by have := h.f0; omega)
  have h2 := TextB_size p.f4 (by have := h.f4; omega)
  have h3 := IntB_small p.f1 h.f1.1 h.f1.2
  have h4 := IntB_small p.f5 h.f5.1 h.f5.2
  have h5 := IntsB_size (ks6 p) (show (6 : Nat) ≤ 1000 by decide) h.ks
  have h6 : (ks6 p).length = 6 := rfl
  have h7 := h.f0
  have h8 := h.f4
  exact ⟨by omega, h3, by omega, by omega, h4, TextsB_any p.f6 h.f6 h.el⟩
theorem Encode_ev (p : S55) (h : POk p) : Ev (fun k => patch_Encode.f k p.f0 p.f1 p.f2.f0 p.f2.f1 p.f2.f2 p.f3.f0 p.f3.f1 p.f3.f2 p.f4 p.f5 p.f6) (EncB p) := by
  obtain ⟨h1, h2, h3, h4, h5, h6⟩ := enc_sizes h
  unfold patch_Encode.f
  refine Ev.bind (wire_Text_ev p.f0 (by have := h.f0; omega)) ?_
  refine Ev.bind (wire_Int_ev p.f1 h.f1.1 h.f1.2) ?_
  refine evI (by omega) ?_
  refine Ev.bind (wire_Ints_ev (ks6 p) (show (6 : Nat) ≤ 9000 by decide) h.ks) ?_
  refine evI (by rw [ByteArray.size_append]; omega) ?_
  refine Ev.bind (wire_Text_ev p.f4 (by have := h.f4; omega)) ?_
  refine evI (by simp only [ByteArray.size_append]; omega) ?_
  refine Ev.bind (wire_Int_ev p.f5 h.f5.1 h.f5.2) ?_
  refine evI (by simp only [ByteArray.size_append]; omega) ?_
  refine Ev.bind (wire_Texts_ev p.f6 h.f6 (fun t ht => by have := h.el t ht; omega)) ?_
  refine evI (by simp only [ByteArray.size_append]; omega) ?_
  exact Ev.now _
theorem refEncode_ev (p : S55) (h : POk p) : Ev (fun k => abugidaref25_Encode.f k p.f0 p.f1 p.f2.f0 p.f2.f1 p.f2.f2 p.f3.f0 p.f3.f1 p.f3.f2 p.f4 p.f5 p.f6) (EncB p) := by
  obtain ⟨h1, h2, h3, h4, h5, h6⟩ := enc_sizes h
  unfold abugidaref25_Encode.f
  refine Ev.bind (ref_Ints_ev (ks6 p) (show (6 : Nat) ≤ 9000 by decide) h.ks) ?_
  refine Ev.bind (ref_Text_ev p.f0 (by have := h.f0; omega)) ?_
  refine Ev.bind (ref_Int_ev p.f1 h.f1.1 h.f1.2) ?_
  refine evI (by omega) ?_
  refine evI (by rw [ByteArray.size_append]; omega) ?_
  refine Ev.bind (ref_Text_ev p.f4 (by have := h.f4; omega)) ?_
  refine evI (by simp only [ByteArray.size_append]; omega) ?_
  refine Ev.bind (ref_Int_ev p.f5 h.f5.1 h.f5.2) ?_
  refine evI (by simp only [ByteArray.size_append]; omega) ?_
  refine Ev.bind (ref_Texts_ev p.f6 h.f6 (fun t ht => by have := h.el t ht; omega)) ?_
  refine evI (by simp only [ByteArray.size_append]; omega) ?_
  exact Ev.now _
theorem enc_mem {l : List S55} (h : ∀ p ∈ l, POk p) : ∀ t ∈ l.map EncB, t.size ≤ 9000 := fun t ht => by
  obtain ⟨p, hp, rfl⟩ := List.mem_map.1 ht
  exact (h p hp).enc
theorem map_snoc {α β : Type} (f : α → β) (l : List α) (i : Nat) (x : α) (h : l[i]? = some x) : (l.take (i + 1)).map f = (l.take i).map f ++ [f x] := by
  rw [List.take_add_one, h]
  simp
theorem told_end (l : List S55) (hl : l.length ≤ 9000) (h : ∀ p ∈ l, POk p) : Ev (fun k => (wire_Text.f k toldW).bind fun t196 => ((wire_Texts.f k (l.map EncB)).bind fun t197 => (if t196.size + t197.size ≤ 9223372036854775807 then (some (t196 ++ t197)) else (none)))) (ToldB l) := by
  have h1 := TextB_size toldW (by decide)
  have h2 := TextsB_any (l.map EncB) (by simpa using hl) (enc_mem h)
  have h5 : toldW.size = 4 := rfl
  refine Ev.bind (wire_Text_ev toldW (by decide)) ?_
  refine Ev.bind (wire_Texts_ev (l.map EncB) (by simpa using hl) (fun t ht => by have := enc_mem h t ht; omega)) ?_
  refine evI (by omega) ?_
  exact Ev.now _
theorem Told_loop (l : List S55) (hl : l.length ≤ 9000) (h : ∀ p ∈ l, POk p) (d : Nat) : ∀ i : Nat, l.length - i = d → i ≤ l.length → Ev (fun k => relay_Told.l0 k ((l.take i).map EncB) l (l.length : Int) i) (ToldB l) := by
  induction d with
  | zero =>
    intro i hd hi
    refine Ev.step (fun k => relay_Told.l0.eq_2 ..) ?_
    refine evN (by omega) ?_
    rw [List.take_of_length_le (by omega)]
    exact told_end l hl h
  | succ d ih =>
    intro i hd hi
    obtain ⟨x, hx⟩ := get_some (l := l) (i := i) (by omega)
    have x0 := h x (List.mem_of_getElem? hx)
    refine Ev.step (fun k => relay_Told.l0.eq_2 ..) ?_
    refine evI (by omega) ?_
    refine evI (by omega) ?_
    refine evI (by omega) ?_
    rw [rd55 hx]
    refine Ev.bind (Encode_ev x x0) ?_
    refine evI (by simp; omega) ?_
    rw [show wrap64 ((i : Int) + 1) = ((i + 1 : Nat) : Int) from w64 (by omega) (by omega), ← map_snoc EncB l i x hx]
    exact ih (i + 1) (by omega) (by omega)
theorem Told_ev (l : List S55) (hl : l.length ≤ 9000) (h : ∀ p ∈ l, POk p) : Ev (fun k => relay_Told.f k l) (ToldB l) := Told_loop l hl h l.length 0 (by omega) (by omega)
theorem refTold_loop (l : List S55) (hl : l.length ≤ 9000) (h : ∀ p ∈ l, POk p) (d : Nat) : ∀ i : Nat, l.length - i = d → i ≤ l.length → Ev (fun k => abugidaref35_Told.l0 k l ((l.take i).map EncB) i) (ToldB l) := by
  have h1 := TextB_size toldW (by decide)
  have h2 := TextsB_any (l.map EncB) (by simpa using hl) (enc_mem h)
  have h5 : toldW.size = 4 := rfl
  induction d with
  | zero =>
    intro i hd hi
    refine Ev.step (fun k => abugidaref35_Told.l0.eq_2 ..) ?_
    refine evN (by omega) ?_
    rw [List.take_of_length_le (by omega)]
    refine Ev.bind (ref_Text_ev toldW (by decide)) ?_
    refine Ev.bind (ref_Texts_ev (l.map EncB) (by simpa using hl) (fun t ht => by have := enc_mem h t ht; omega)) ?_
    refine evI (by omega) ?_
    exact Ev.now _
  | succ d ih =>
    intro i hd hi
    obtain ⟨x, hx⟩ := get_some (l := l) (i := i) (by omega)
    have x0 := h x (List.mem_of_getElem? hx)
    refine Ev.step (fun k => abugidaref35_Told.l0.eq_2 ..) ?_
    refine evI (by omega) ?_
    refine evI (by omega) ?_
    rw [rd55 hx]
    refine Ev.bind (refEncode_ev x x0) ?_
    refine evI (by simp; omega) ?_
    rw [show wrap64 ((i : Int) + 1) = ((i + 1 : Nat) : Int) from w64 (by omega) (by omega), ← map_snoc EncB l i x hx]
    exact ih (i + 1) (by omega) (by omega)
theorem refTold_ev (l : List S55) (hl : l.length ≤ 9000) (h : ∀ p ∈ l, POk p) : Ev (fun k => abugidaref35_Told.f k l) (ToldB l) := refTold_loop l hl h l.length 0 (by omega) (by omega)
end Go.Proofs.Ythokkeljfdfppaa.Pure

/- Patches, requests and answers are read as by the reference, whatever is read; and what was written is read again. -/
set_option linter.unusedVariables false
set_option linter.unusedSimpArgs false
namespace Go.Proofs.Ythokkeljfdfppaa.Pure
open Go.RowKit Go.Proofs.Ythokkeljfdfppaa.Pb Go.Proofs.YthokkeljfdfppaaW.PrintWords Go.Proofs.YthokkeljfdfppaaW.PrintLast Go.Proofs.YthokkeljfdfppaaW.PrintMore Go.Proofs.Ythokkeljfdfppaa.Gw Go.Proofs.Ythokkeljfdfppaa.Rl
theorem dec_ev (p : S55) (h : POk p) (hl : p.f6.length ≤ 1000) : Ev (fun k => patch_Decode.r k (EncB p)) (p, 0) := by
  have he := h.enc
  have h0 : ByteArray.empty.size = 0 := rfl
  have he2 := he
  unfold EncB at he2
  simp only [ByteArray.size_append] at he2
  have hd : decF p.f0 p.f1 (ks6 p) p.f4 p.f5 p.f6 ((ByteArray.empty.size : Nat) : Int) false = (p, 0) := if_neg (by simp [ks6])
  rw [← hd]
  unfold patch_Decode.r
  refine evN (by omega) ?_
  rw [show EncB p = TextB p.f0 ++ (IntB p.f1 ++ (IntsB (ks6 p) ++ (TextB p.f4 ++ (IntB p.f5 ++ (TextsB p.f6 ++ ByteArray.empty))))) by unfold EncB; simp only [ByteArray.append_assoc, ByteArray.append_empty]]
  refine Ev.bind (a := (_, false)) (Ev.now _) ?_
  refine Ev.bind (Text_ev p.f0 _ (by have := h.f0; omega) (by simp only [ByteArray.size_append]; omega)) ?_
  refine Ev.bind (Reader_Int_ev p.f1 h.f1.1 h.f1.2 _) ?_
  refine Ev.bind (Ints_ev (ks6 p) _ (show (6 : Nat) ≤ 1000 by decide) h.ks (by simp only [ByteArray.size_append]; omega)) ?_
  refine Ev.bind (Text_ev p.f4 _ (by have := h.f4; omega) (by simp only [ByteArray.size_append]; omega)) ?_
  refine Ev.bind (Reader_Int_ev p.f5 h.f5.1 h.f5.2 _) ?_
  refine Ev.bind (Texts_ev p.f6 ByteArray.empty hl (fun t ht => by have := h.el t ht; omega) (by decide)) ?_
  exact Ev.now _
end Go.Proofs.Ythokkeljfdfppaa.Pure

/- Requests are read as by the reference, whatever is read; what was written is read again. -/
set_option linter.unusedVariables false
set_option linter.unusedSimpArgs false
namespace Go.Proofs.Ythokkeljfdfppaa.Pure
open Go.RowKit Go.Proofs.Ythokkeljfdfppaa.Pb Go.Proofs.YthokkeljfdfppaaW.PrintWords Go.Proofs.YthokkeljfdfppaaW.PrintLast Go.Proofs.YthokkeljfdfppaaW.PrintMore Go.Proofs.Ythokkeljfdfppaa.Gw Go.Proofs.Ythokkeljfdfppaa.Rl
abbrev AskR := ByteArray × Int × (List (S52)) × Bool
def noAsk : AskR := ((⟨#[]⟩ : ByteArray), 0, ([] : List (S52)), false)
theorem toList_eq {a b : ByteArray} : a.toList = b.toList ↔ a = b := ⟨ext_of_toList, fun h => h ▸ rfl⟩
theorem askL : askW.toList = ([97, 115, 107] : List UInt8) := (toList_data _).trans rfl
theorem toldL : toldW.toList = ([116, 111, 108, 100] : List UInt8) := (toList_data _).trans rfl
theorem asked_ev_loop (font : ByteArray) (v : Int) (l : List S52) (hl : l.length ≤ 9000) (h : ∀ k ∈ l, KOk k) : ∀ (d i : Nat), l.length - i = d → i ≤ l.length → Ev (fun k => relay_Asked.l0 k font v (l.take i) (l.length : Int) (join KeyB (l.drop i) ByteArray.empty) false) (font, v, l, true)
  | 0, i, hd, hi => by
    rw [List.take_of_length_le (by omega), List.drop_of_length_le (by omega)]
    refine Ev.step (fun k => relay_Asked.l0.eq_2 ..) ?_
    refine evN (by omega) ?_
    refine Ev.step (fun k => relay_Asked.j1.eq_2 ..) ?_
    refine evN (by decide) ?_
    refine Ev.bind (a := (false, ByteArray.empty, false)) (Ev.now _) ?_
    refine evN (by decide) ?_
    refine evN (by omega) ?_
    refine Ev.bind (a := (0, ByteArray.empty, false)) (Ev.now _) ?_
    refine evN (by decide) ?_
    exact Ev.now _
  | d + 1, i, hd, hi => by
    obtain ⟨x, hx⟩ := get_some (l := l) (i := i) (by omega)
    have x0 := h x (List.mem_of_getElem? hx)
    have hil : i < l.length := by omega
    have hxe : l[i] = x := by rw [List.getElem?_eq_getElem hil] at hx; exact Option.some.inj hx
    have hdrop : join KeyB (l.drop i) ByteArray.empty = IntB x.f0 ++ (IntB x.f1 ++ (IntB x.f2 ++ join KeyB (l.drop (i + 1)) ByteArray.empty)) := by
      rw [List.drop_eq_getElem_cons hil, hxe, show join KeyB (x :: l.drop (i + 1)) ByteArray.empty = join KeyB (l.drop (i + 1)) (ByteArray.empty ++ KeyB x) from rfl, join_cons KeyB (l.drop (i + 1)) (ByteArray.empty ++ KeyB x), ByteArray.empty_append]
      unfold KeyB
      simp only [ByteArray.append_assoc]
    have ih := asked_ev_loop font v l hl h d (i + 1) (by omega) (by omega)
    have htk : (l.take (i + 1)) = l.take i ++ [x] := by rw [List.take_add_one, hx]; rfl
    have hlt : (l.take i).length = i := by rw [List.length_take]; omega
    refine Ev.step (fun k => relay_Asked.l0.eq_2 ..) ?_
    refine evI (by rw [hlt]; omega) ?_
    refine Ev.bind (a := (false, join KeyB (l.drop i) ByteArray.empty, false)) (Ev.now _) ?_
    refine Ev.step (fun k => relay_Asked.j1.eq_2 ..) ?_
    refine evI rfl ?_
    rw [hdrop]
    refine Ev.bind (Reader_Int_ev x.f0 x0.a.1 x0.a.2 _) ?_
    refine Ev.bind (Reader_Int_ev x.f1 x0.b.1 x0.b.2 _) ?_
    refine Ev.bind (Reader_Int_ev x.f2 x0.c.1 x0.c.2 _) ?_
    refine evI (by rw [hlt]; omega) ?_
    rw [htk] at ih
    exact ih
theorem Asked_ev (f : ByteArray) (v : Int) (ks : List S52) (hf : f.size ≤ 9000) (hv : I64 v) (hl : ks.length ≤ 9000) (h : ∀ k ∈ ks, KOk k) : Ev (fun k => relay_Asked.f k (AskB f v ks)) (f, v, ks, true) := by
  have hz := join_size KeyB 30 ks ByteArray.empty (fun k hk => KeyB_size (h k hk))
  have h0 : ByteArray.empty.size = 0 := rfl
  have h2 := TextB_size f (by omega)
  have h3 := IntB_small v hv.1 hv.2
  have h4 := IntB_small ks.length (by omega) (by omega)
  have e : AskB f v ks = TextB askW ++ (TextB f ++ (IntB v ++ (IntB ks.length ++ join KeyB ks ByteArray.empty))) := by
    rw [AskB, join_cons KeyB ks (HeadB f v ks.length), HeadB]
    simp only [ByteArray.append_assoc]
  rw [e]
  unfold relay_Asked.f
  refine Ev.bind (a := (_, false)) (Ev.now _) ?_
  refine Ev.bind (Text_ev askW _ (by decide) (by simp only [ByteArray.size_append]; omega)) ?_
  refine evI askL ?_
  refine Ev.bind (Text_ev f _ (by omega) (by simp only [ByteArray.size_append]; omega)) ?_
  refine Ev.bind (Reader_Int_ev v hv.1 hv.2 _) ?_
  refine Ev.bind (Reader_Int_ev ks.length (by omega) (by omega) _) ?_
  exact asked_ev_loop f v ks hl h ks.length 0 (by omega) (by omega)
theorem Asked_told (l : List S55) (hz : (TextsB (l.map EncB)).size ≤ 100000000) : Ev (fun k => relay_Asked.f k (ToldB l)) noAsk := by
  unfold relay_Asked.f ToldB
  refine Ev.bind (a := (_, false)) (Ev.now _) ?_
  refine Ev.bind (Text_ev toldW _ (by decide) hz) ?_
  refine evN (by show ¬ toldW.toList = _; rw [toldL]; decide) ?_
  exact Ev.now _
end Go.Proofs.Ythokkeljfdfppaa.Pure

/- Answers are read as by the reference, whatever is read; what was written is read again. -/
set_option linter.unusedVariables false
set_option linter.unusedSimpArgs false
namespace Go.Proofs.Ythokkeljfdfppaa.Pure
open Go.RowKit Go.Proofs.Ythokkeljfdfppaa.Pb Go.Proofs.YthokkeljfdfppaaW.PrintWords Go.Proofs.YthokkeljfdfppaaW.PrintLast Go.Proofs.YthokkeljfdfppaaW.PrintMore Go.Proofs.Ythokkeljfdfppaa.Gw Go.Proofs.Ythokkeljfdfppaa.Rl
abbrev TellR := (List (S55)) × Bool
def noTell : TellR := (([] : List (S55)), false)
theorem decF_ev {k0 : Nat → ByteArray → Option (S55 × Int)} {t : ByteArray} {x : S55 × Int} (h : Ev (fun k => k0 k t) x) : Ev (fun k => (k0 k t).bind fun x => some (flatP x)) (flatP x) := Ev.bind h (Ev.now _)
theorem tell_no (texts : List ByteArray) : Ev (fun k => relay_Tell.j0 k ([] : List (S55)) texts true) noTell := by
  refine Ev.step (fun k => relay_Tell.j0.eq_2 ..) ?_
  exact evI rfl (Ev.now _)
theorem tell_ev_loop (l : List S55) (hl : l.length ≤ 9000) (h : ∀ p ∈ l, POk p ∧ p.f6.length ≤ 1000) : ∀ (d i : Nat), l.length - i = d → i ≤ l.length → Ev (fun k => relay_Tell.l0 k (l.take i) (l.map EncB) (l.length : Int) (i : Int)) (l, true)
  | 0, i, hd, hi => by
    rw [List.take_of_length_le (by omega)]
    refine Ev.step (fun k => relay_Tell.l0.eq_2 ..) ?_
    refine evN (by omega) ?_
    exact Ev.now _
  | d + 1, i, hd, hi => by
    obtain ⟨x, hx⟩ := get_some (l := l) (i := i) (by omega)
    have x0 := h x (List.mem_of_getElem? hx)
    have ih := tell_ev_loop l hl h d (i + 1) (by omega) (by omega)
    have htk : (l.take (i + 1)) = l.take i ++ [x] := by rw [List.take_add_one, hx]; rfl
    have hlt : (l.take i).length = i := by rw [List.length_take]; omega
    have hmx : (l.map EncB)[i]? = some (EncB x) := by rw [List.getElem?_map, hx]; rfl
    refine Ev.step (fun k => relay_Tell.l0.eq_2 ..) ?_
    refine evI (by omega) ?_
    refine evI (by omega) ?_
    refine evI (by rw [List.length_map]; omega) ?_
    rw [rd_some' hmx]
    refine Ev.bind (decF_ev (dec_ev x x0.1 x0.2)) ?_
    refine evI rfl ?_
    refine evI (by rw [hlt]; omega) ?_
    rw [show wrap64 ((i : Int) + 1) = ((i + 1 : Nat) : Int) from w64 (by omega) (by omega)]
    rw [htk] at ih
    exact ih
theorem Tell_ev (l : List S55) (hl : l.length ≤ 1000) (h : ∀ p ∈ l, POk p ∧ p.f6.length ≤ 1000) : Ev (fun k => relay_Tell.f k (ToldB l)) (l, true) := by
  have h0 : ByteArray.empty.size = 0 := rfl
  have hz := TextsB_any (l.map EncB) (by rw [List.length_map]; omega) (enc_mem (fun p hp => (h p hp).1))
  rw [show ToldB l = TextB toldW ++ (TextsB (l.map EncB) ++ ByteArray.empty) by rw [ToldB, ByteArray.append_empty]]
  unfold relay_Tell.f
  refine Ev.bind (a := (_, false)) (Ev.now _) ?_
  refine Ev.bind (Text_ev toldW _ (by decide) (by rw [ByteArray.size_append]; omega)) ?_
  refine Ev.bind (Texts_ev (l.map EncB) ByteArray.empty (by rw [List.length_map]; exact hl) (fun t ht => by have := enc_mem (fun p hp => (h p hp).1) t ht; omega) (by decide)) ?_
  refine evI toldL ?_
  refine Ev.bind (a := (false, ByteArray.empty, false)) (Ev.now _) ?_
  refine evN Bool.false_ne_true ?_
  refine Ev.bind (a := (0, ByteArray.empty, false)) (Ev.now _) ?_
  show Ev (fun k => relay_Tell.j0 k ([] : List (S55)) (l.map EncB) (decide ((0 : Int) > 0))) _
  rw [show decide ((0 : Int) > 0) = false from rfl]
  refine Ev.step (fun k => relay_Tell.j0.eq_2 ..) ?_
  refine evN Bool.false_ne_true ?_
  have := tell_ev_loop l (by omega) h l.length 0 (by omega) (by omega)
  rw [List.length_map]
  exact this
theorem Tell_ask (f : ByteArray) (v : Int) (ks : List S52) (hz : (AskB f v ks).size ≤ 9000) : Ev (fun k => relay_Tell.f k (AskB f v ks)) noTell := by
  have e : AskB f v ks = TextB askW ++ (TextB f ++ (IntB v ++ (IntB ks.length ++ join KeyB ks ByteArray.empty))) := by
    rw [AskB, join_cons KeyB ks (HeadB f v ks.length), HeadB]
    simp only [ByteArray.append_assoc]
  rw [e] at hz ⊢
  rw [ByteArray.size_append] at hz
  obtain ⟨texts, q2, i2, b2, p2, r2, m2, z2, y2⟩ := Texts_same2 (TextB f ++ (IntB v ++ (IntB ks.length ++ join KeyB ks ByteArray.empty))) (by omega) _ false 0 (Sim_start _)
  unfold relay_Tell.f
  refine Ev.bind (a := (_, false)) (Ev.now _) ?_
  refine Ev.bind (Text_ev askW _ (by decide) (by omega)) ?_
  refine Ev.bind p2 ?_
  refine evN (by show ¬ askW.toList = _; rw [askL]; decide) ?_
  exact tell_no texts
end Go.Proofs.Ythokkeljfdfppaa.Pure

