/- wire.list, for numbers and for strings; wire.Ints and wire.Texts. -/
import Derived.Test.YtibdgpnedlpdbaaPbx2
import Derived.Test.YtibdgpnedlpdbaaBd
import Derived.Lib.Hide
set_option linter.unusedVariables false
set_option linter.unusedSimpArgs false
namespace Go.Proofs.Ytibdgpnedlpdbaa.Gw
open Go.RowKit Go.Proofs.YtibdgpnedlpdbaaW.PrintWords Go.Proofs.Ytibdgpnedlpdbaa.Pb
/-- The bytes of the elements, one behind the other, behind what stands there. -/
def cat {α : Type} (g : α → Option ByteArray) : List α → List UInt8 → Option (List UInt8)
  | [], acc => some acc
  | x :: xs, acc => (g x).bind fun s => if acc.length + s.size ≤ 140737488355328 then cat g xs (acc ++ s.data.toList) else none
theorem cat_mono {α : Type} {g h : α → Option ByteArray} (hm : ∀ x, LeO (g x) (h x)) : ∀ l acc, LeO (cat g l acc) (cat h l acc)
  | [], acc => fun r hr => hr
  | x :: xs, acc => fun r hr => by
    unfold cat at hr ⊢
    obtain ⟨s, hs, hr⟩ := Option.bind_eq_some_iff.1 hr
    rw [hm x s hs]
    simp only [Option.bind_some]
    by_cases c : acc.length + s.size ≤ 140737488355328
    · rw [if_pos c] at hr ⊢
      exact cat_mono hm xs _ r hr
    · rw [if_neg c] at hr; cases hr
def listF {α : Type} (hd : Int → Option ByteArray) (g : α → Option ByteArray) (l : List α) : Option ByteArray :=
  (hd l.length).bind fun h => if h.size ≤ 140737488355328 then (cat g l h.data.toList).bind fun r => some ⟨r.toArray⟩ else none
theorem listF_mono {α : Type} {hd hd' : Int → Option ByteArray} {g g' : α → Option ByteArray} (h1 : ∀ x, LeO (hd x) (hd' x)) (h2 : ∀ x, LeO (g x) (g' x)) (l : List α) : LeO (listF hd g l) (listF hd' g' l) := by
  intro r hr
  unfold listF at hr ⊢
  obtain ⟨s, hs, hr⟩ := Option.bind_eq_some_iff.1 hr
  rw [h1 _ s hs]
  simp only [Option.bind_some]
  by_cases c : s.size ≤ 140737488355328
  · rw [if_pos c] at hr ⊢
    obtain ⟨q, hq, hr⟩ := Option.bind_eq_some_iff.1 hr
    rw [cat_mono h2 l _ q hq]
    exact hr
  · rw [if_neg c] at hr; cases hr
theorem builder_below {T e : TypeId} {B b : Nat} {bs : List Value} {w w' : World} (h : Lib.IsBuilderF T e B b bs w) (hb : Below w.heap.size w w') : Lib.IsBuilderF T e B b bs w' := by
  have key : ∀ p, Lib.BuilderAtF T e B b p bs w → Lib.BuilderAtF T e B b p bs w' := by
    intro p h
    have hlt := h.lt
    obtain ⟨h1, v, h2, h3, h4⟩ := h
    exact ⟨h1, v, (hb.block _ hlt).trans h2, h3.kept (grown_of_below hb none) (by cases v.ownBlock <;> simp), h4⟩
  exact h.imp (key _) (key _)
/-- The world while a list is written: the builder holds what is written. -/
def LI (B : Nat) (w : World) (acc : List UInt8) (W : World) : Prop := Lib.IsBuilderF 61 5 B B (Lib.byteCells acc) W ∧ Below B w W
theorem LI.call {B : Nat} {w W W' : World} {acc : List UInt8} (h : LI B w acc W) (hB : B ≤ W.heap.size) (hb : Below W.heap.size W W') : LI B w acc W' :=
  ⟨builder_below h.1 hb, h.2.trans (hb.mono hB)⟩
set_option maxHeartbeats 1000000 in
theorem list_int (k : Nat) (A : Option Addr) (c : Nat) (l : List Int) (r : ByteArray) (w : World) (hr : Kd.C (Kd.int .i64) w A l.length l) (h : listF (wire_Int.f k) (wire_Int.f k) l = some r) :
    Calls Try.prog 38 #[.slice A l.length c, .func (.func 11) #[] #[]] w fun e w' => e = .returned (.string r) ∧ Below w.heap.size w w' := by
  have hl : l.length ≤ 9223372036854775807 := hr.2.1
  obtain ⟨hd, hhd, h⟩ := Option.bind_eq_some_iff.1 h
  by_cases chd : hd.size ≤ 140737488355328
  case neg => rw [if_neg chd] at h; cases h
  rw [if_pos chd] at h
  obtain ⟨res, hres, h⟩ := Option.bind_eq_some_iff.1 h
  have HR0 := Lib.hid hr
  have HHD := Lib.hid hhd
  have HRES := Lib.hid hres
  have HEQ := Lib.hid h
  have hfr := Lib.IsBuilderF.of (Lib.fresh_isBuilder 61 5 w)
  have hbf : Below w.heap.size w (w.alloc (.cells #[.pointer none, .slice none 0 0] 61)) := (Below.refl _ _).alloc (Nat.le_refl _) _
  have HFR := Lib.hid hfr
  clear hr hhd hres h hfr
  go_enter Try.func38, Try.ntmps38
  go_wp2_with (first
    | (go_at_call 11; refine (wire_Int.calls k _ hd _ HHD.out).mono ?_; rintro e w1 ⟨rfl, hb1⟩; have hI1 := builder_below HFR.out hb1; have HI1 := Lib.hid hI1; clear hI1; have hB1 := hbf.trans (hb1.mono (by simp)))
    | (go_at_call 45; refine (Bd.writeString w.heap.size w.heap.size [] hd _ HI1.out (by simpa using chd) hB1.size).mono ?_; rintro e w2 ⟨rfl, hI2, hb2, -⟩; have HI2 := Lib.hid hI2; clear hI2))
  go_loopw [14] (fun i wr => ∃ (n : Nat) (acc : List UInt8), n ≤ l.length ∧ i = .int .i64 n ∧ LI w.heap.size w acc wr ∧ acc.length ≤ 140737488355328 ∧ cat (wire_Int.f k) (l.drop n) acc = some res) (fun i _ => l.length - (intOf i).toNat)
  case atStart =>
    refine ⟨0, hd.data.toList, Nat.zero_le _, rfl, ⟨.inr ?_, hB1.trans hb2⟩, by simpa using chd, HRES.out⟩
    simpa using HI2.out
  case round =>
    obtain ⟨n, acc, hn, rfl, hI, hacc, hcat⟩ := hrel
    have hsz := hI.2.size
    by_cases hlt : n < l.length
    · obtain ⟨ad, rfl, hcell⟩ := Kd.at_int (Kd.C_below HR0.out hI.2) (n : Int) (by omega) (by omega)
      have hget : l[n]? = some (rd l (n : Int)) := by simp [rd, List.getD_eq_getElem?_getD, List.getElem?_eq_getElem hlt]
      have hdr : l.drop n = rd l (n : Int) :: l.drop (n + 1) := by
        rw [List.drop_eq_getElem_cons hlt]
        rw [List.getElem?_eq_getElem hlt] at hget
        rw [Option.some.inj hget]
      rw [hdr] at hcat
      unfold cat at hcat
      obtain ⟨s, hs, hcat⟩ := Option.bind_eq_some_iff.1 hcat
      by_cases cs : acc.length + s.size ≤ 140737488355328
      case neg => rw [if_neg cs] at hcat; cases hcat
      rw [if_pos cs] at hcat
      have HS := Lib.hid hs
      have HC := Lib.hid hcat
      have HI := Lib.hid hI
      clear hs hcat hI hget hdr
      rw [Int.toNat_natCast] at hcell
      generalize rd l (n : Int) = x at *
      go_wp2_with (first
        | (go_at_call 11; refine (wire_Int.calls k x s _ HS.out).mono ?_; rintro e w3 ⟨rfl, hb3⟩; have hI3 := (HI.out.call hsz hb3); have HI3 := Lib.hid hI3; clear hI3)
        | (go_at_call 45; refine (Bd.writeString w.heap.size w.heap.size _ s _ HI3.out.1 (by rw [Lib.byteCells_length]; exact cs) HI3.out.2.size).mono ?_; rintro e w4 ⟨rfl, hI4, hb4, -⟩; have HI4 := Lib.hid hI4; clear hI4))
      go_roundw
      case rel =>
        refine ⟨n + 1, acc ++ s.data.toList, by omega, by go_num, ⟨.inr ?_, HI3.out.2.trans hb4⟩, by simpa using cs, HC.out⟩
        rw [Lib.byteCells_append]; exact HI4.out
      case measure => simp [intOf]; omega
    · rw [List.drop_of_length_le (by omega)] at hcat
      obtain rfl := Option.some.inj hcat
      have HI := Lib.hid hI
      clear hI hcat
      go_wp2_with (go_at_call 46; refine (Bd.toString_any w.heap.size w.heap.size acc _ HI.out.1 hsz).mono ?_; rintro e w5 ⟨rfl, hb5⟩)
      go_ret
      have hq := HEQ.out
      obtain rfl := Option.some.inj hq
      exact ⟨rfl, HI.out.2.trans hb5⟩
set_option maxHeartbeats 1000000 in
theorem list_string (k : Nat) (A : Option Addr) (c : Nat) (l : List ByteArray) (r : ByteArray) (w : World) (hr : Kd.C Kd.string w A l.length l) (h : listF (wire_Int.f k) (wire_Text.f k) l = some r) :
    Calls Try.prog 39 #[.slice A l.length c, .func (.func 18) #[] #[]] w fun e w' => e = .returned (.string r) ∧ Below w.heap.size w w' := by
  have hl : l.length ≤ 9223372036854775807 := hr.2.1
  obtain ⟨hd, hhd, h⟩ := Option.bind_eq_some_iff.1 h
  by_cases chd : hd.size ≤ 140737488355328
  case neg => rw [if_neg chd] at h; cases h
  rw [if_pos chd] at h
  obtain ⟨res, hres, h⟩ := Option.bind_eq_some_iff.1 h
  have HR0 := Lib.hid hr
  have HHD := Lib.hid hhd
  have HRES := Lib.hid hres
  have HEQ := Lib.hid h
  have hfr := Lib.IsBuilderF.of (Lib.fresh_isBuilder 61 5 w)
  have hbf : Below w.heap.size w (w.alloc (.cells #[.pointer none, .slice none 0 0] 61)) := (Below.refl _ _).alloc (Nat.le_refl _) _
  have HFR := Lib.hid hfr
  clear hr hhd hres h hfr
  go_enter Try.func39, Try.ntmps39
  go_wp2_with (first
    | (go_at_call 11; refine (wire_Int.calls k _ hd _ HHD.out).mono ?_; rintro e w1 ⟨rfl, hb1⟩; have hI1 := builder_below HFR.out hb1; have HI1 := Lib.hid hI1; clear hI1; have hB1 := hbf.trans (hb1.mono (by simp)))
    | (go_at_call 45; refine (Bd.writeString w.heap.size w.heap.size [] hd _ HI1.out (by simpa using chd) hB1.size).mono ?_; rintro e w2 ⟨rfl, hI2, hb2, -⟩; have HI2 := Lib.hid hI2; clear hI2))
  go_loopw [14] (fun i wr => ∃ (n : Nat) (acc : List UInt8), n ≤ l.length ∧ i = .int .i64 n ∧ LI w.heap.size w acc wr ∧ acc.length ≤ 140737488355328 ∧ cat (wire_Text.f k) (l.drop n) acc = some res) (fun i _ => l.length - (intOf i).toNat)
  case atStart =>
    refine ⟨0, hd.data.toList, Nat.zero_le _, rfl, ⟨.inr ?_, hB1.trans hb2⟩, by simpa using chd, HRES.out⟩
    simpa using HI2.out
  case round =>
    obtain ⟨n, acc, hn, rfl, hI, hacc, hcat⟩ := hrel
    have hsz := hI.2.size
    by_cases hlt : n < l.length
    · obtain ⟨ad, rfl, hcell⟩ := Kd.at_string (Kd.C_below HR0.out hI.2) (n : Int) (by omega) (by omega)
      have hget : l[n]? = some (rdOf ByteArray.empty l (n : Int)) := by simp [rdOf, List.getD_eq_getElem?_getD, List.getElem?_eq_getElem hlt]
      have hdr : l.drop n = rdOf ByteArray.empty l (n : Int) :: l.drop (n + 1) := by
        rw [List.drop_eq_getElem_cons hlt]
        rw [List.getElem?_eq_getElem hlt] at hget
        rw [Option.some.inj hget]
      rw [hdr] at hcat
      unfold cat at hcat
      obtain ⟨s, hs, hcat⟩ := Option.bind_eq_some_iff.1 hcat
      by_cases cs : acc.length + s.size ≤ 140737488355328
      case neg => rw [if_neg cs] at hcat; cases hcat
      rw [if_pos cs] at hcat
      have HS := Lib.hid hs
      have HC := Lib.hid hcat
      have HI := Lib.hid hI
      clear hs hcat hI hget hdr
      rw [Int.toNat_natCast] at hcell
      generalize rdOf ByteArray.empty l (n : Int) = x at *
      go_wp2_with (first
        | (go_at_call 18; refine (wire_Text.calls k x s _ HS.out).mono ?_; rintro e w3 ⟨rfl, hb3⟩; have hI3 := (HI.out.call hsz hb3); have HI3 := Lib.hid hI3; clear hI3)
        | (go_at_call 45; refine (Bd.writeString w.heap.size w.heap.size _ s _ HI3.out.1 (by rw [Lib.byteCells_length]; exact cs) HI3.out.2.size).mono ?_; rintro e w4 ⟨rfl, hI4, hb4, -⟩; have HI4 := Lib.hid hI4; clear hI4))
      go_roundw
      case rel =>
        refine ⟨n + 1, acc ++ s.data.toList, by omega, by go_num, ⟨.inr ?_, HI3.out.2.trans hb4⟩, by simpa using cs, HC.out⟩
        rw [Lib.byteCells_append]; exact HI4.out
      case measure => simp [intOf]; omega
    · rw [List.drop_of_length_le (by omega)] at hcat
      obtain rfl := Option.some.inj hcat
      have HI := Lib.hid hI
      clear hI hcat
      go_wp2_with (go_at_call 46; refine (Bd.toString_any w.heap.size w.heap.size acc _ HI.out.1 hsz).mono ?_; rintro e w5 ⟨rfl, hb5⟩)
      go_ret
      have hq := HEQ.out
      obtain rfl := Option.some.inj hq
      exact ⟨rfl, HI.out.2.trans hb5⟩
end Go.Proofs.Ytibdgpnedlpdbaa.Gw
