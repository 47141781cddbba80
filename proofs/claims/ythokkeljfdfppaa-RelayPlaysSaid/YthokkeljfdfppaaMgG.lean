/- Several texts of this claim, one behind the other: Pbx6, GwA, GwB, GwR, GwT. -/
import Derived.Test.YthokkeljfdfppaaPbx0
import Derived.Test.YthokkeljfdfppaaPbx1
import Derived.Test.YthokkeljfdfppaaPbx2
import Derived.Test.YthokkeljfdfppaaPbx3
import Derived.Lib.Hide
import Derived.Test.YthokkeljfdfppaaBd
import Derived.Deep.RegionHeld3

/- wire.list, for numbers and for strings; wire.Ints and wire.Texts. -/
set_option linter.unusedVariables false
set_option linter.unusedSimpArgs false
namespace Go.Proofs.Ythokkeljfdfppaa.Gw
open Go.RowKit Go.Proofs.YthokkeljfdfppaaW.PrintWords Go.Proofs.Ythokkeljfdfppaa.Pb
theorem zab2 {p : Prop} (h : p := by rintro w' ⟨s0, s1⟩; go_simp; with_reducible rfl) : p := h
theorem zab1 {p : Prop} (h : p := by simp only [Act.put, nS]; rfl) : p := h
theorem zab0 {p : Prop} (h : p := by intro w'; go_simp; with_reducible rfl) : p := h
theorem infoInt : (Try.prog.info? 3).map (fun i => (i.zero, i.size, i.bytes)) = some (some (.int .i64 0), 1, 8) := by kernel_rfl
theorem infoStr : (Try.prog.info? 9).map (fun i => (i.zero, i.size, i.bytes)) = some (some (.string ⟨#[]⟩), 1, 16) := by kernel_rfl
def cat {α : Type} (g : α → Option ByteArray) : List α → List UInt8 → Option (List UInt8)
 | [], acc => some acc
 | x :: xs, acc => (g x).bind fun s => if acc.length + s.size ≤ 140737488355328 then cat g xs (acc ++ s.data.toList) else none
def listF {α : Type} (hd : Int → Option ByteArray) (g : α → Option ByteArray) (l : List α) : Option ByteArray :=
 (hd l.length).bind fun h => if h.size ≤ 140737488355328 then (cat g l h.data.toList).bind fun r => some ⟨r.toArray⟩ else none
theorem builder_below {T e : TypeId} {B b : Nat} {bs : List Value} {w w' : World} (h : Lib.IsBuilderF T e B b bs w) (hb : Below w.heap.size w w') : Lib.IsBuilderF T e B b bs w' := by
 have key : ∀ p, Lib.BuilderAtF T e B b p bs w → Lib.BuilderAtF T e B b p bs w' := by
  intro p h
  have hlt := h.lt
  obtain ⟨h1, v, h2, h3, h4⟩ := h
  exact ⟨h1, v, (hb.block _ hlt).trans h2, h3.kept (grown_of_below hb none) (by cases v.ownBlock <;> simp), h4⟩
 exact h.imp (key _) (key _)
def LI (B : Nat) (w : World) (acc : List UInt8) (W : World) : Prop := Lib.IsBuilderF 179 5 B B (Lib.byteCells acc) W ∧ Below B w W
theorem LI.call {B : Nat} {w W W' : World} {acc : List UInt8} (h : LI B w acc W) (hB : B ≤ W.heap.size) (hb : Below W.heap.size W W') : LI B w acc W' :=
 ⟨builder_below h.1 hb, h.2.trans (hb.mono hB)⟩
set_option maxRecDepth 100000 in
set_option maxHeartbeats 1000000 in
theorem list_int (k : Nat) (A : Option Addr) (c : Nat) (l : List Int) (r : ByteArray) (w : World) (hr : Kd.C (Kd.int .i64) w A l.length l) (h : listF (wire_Int.f k) (wire_Int.f k) l = some r) :
 Calls Try.prog 91 #[.slice A l.length c, .func (.func 50) #[] #[]] w fun e w' => e = .returned (.string r) ∧ Below w.heap.size w w' := by
 have hl : l.length ≤ 9223372036854775807 := hr.2.1
 obtain ⟨hd, hhd, h⟩ := Option.bind_eq_some_iff.1 h
 by_cases chd : hd.size ≤ 140737488355328
 case neg => rw [if_neg chd] at h; cases h
 rw [if_pos chd] at h
 obtain ⟨res, hres, h⟩ := Option.bind_eq_some_iff.1 h
 have HR0 := Lib.hid hr
 have HHD := Lib.hid hhd
 have HRES := Lib.hid hres
 have HEQ := Lib.hid h
 have hfr := Lib.IsBuilderF.of (Lib.fresh_isBuilder 179 5 w)
 have hbf : Below w.heap.size w (w.alloc (.cells #[.pointer none, .slice none 0 0] 179)) := (Below.refl _ _).alloc (Nat.le_refl _) _
 have HFR := Lib.hid hfr
 clear hr hhd hres h hfr
 go_enter Try.func91, Try.ntmps91
 go_wp2_with (first
  | (go_at_call 50; refine (wire_Int.calls k _ hd _ HHD.out).mono ?_; rintro e w1 ⟨rfl, hb1⟩; have hI1 := builder_below HFR.out hb1; have HI1 := Lib.hid hI1; clear hI1; have hB1 := hbf.trans (hb1.mono (by simp)))
  | (go_at_call 114; refine (Bd.writeString w.heap.size w.heap.size [] hd _ HI1.out (by simpa using chd) hB1.size).mono ?_; rintro e w2 ⟨rfl, hI2, hb2, -⟩; have HI2 := Lib.hid hI2; clear hI2))
 go_loopw [14] (fun i wr => ∃ (n : Nat) (acc : List UInt8), n ≤ l.length ∧ i = .int .i64 n ∧ LI w.heap.size w acc wr ∧ acc.length ≤ 140737488355328 ∧ cat (wire_Int.f k) (l.drop n) acc = some res) (fun i _ => l.length - (intOf i).toNat)
 case atStart =>
  refine ⟨0, hd.data.toList, Nat.zero_le _, rfl, ⟨.inr ?_, hB1.trans hb2⟩, by simpa using chd, HRES.out⟩
  simpa using HI2.out
 case round =>
  obtain ⟨n, acc, hn, rfl, hI, hacc, hcat⟩ := hrel
  have hsz := hI.2.size
  by_cases hlt : n < l.length
  · obtain ⟨ad, rfl, hcell⟩ := Kd.at_int (Kd.C_below HR0.out hI.2) (n : Int) (by omega) (by omega)
    have hget : l[n]? = some (rd l (n : Int)) := by simp [rd, List.getD_eq_getElem?_getD, List.getElem?_eq_getElem hlt]
    have hdr : l.drop n = rd l (n : Int) :: l.drop (n + 1) := by
     rw [List.drop_eq_getElem_cons hlt]
     rw [List.getElem?_eq_getElem hlt] at hget
     rw [Option.some.inj hget]
    rw [hdr] at hcat
    unfold cat at hcat
    obtain ⟨s, hs, hcat⟩ := Option.bind_eq_some_iff.1 hcat
    by_cases cs : acc.length + s.size ≤ 140737488355328
    case neg => rw [if_neg cs] at hcat; cases hcat
    rw [if_pos cs] at hcat
    have HS := Lib.hid hs
    have HC := Lib.hid hcat
    have HI := Lib.hid hI
    clear hs hcat hI hget hdr
    rw [Int.toNat_natCast] at hcell
    generalize rd l (n : Int) = x at *
    go_wp2_with (first
     | (go_at_call 50; refine (wire_Int.calls k x s _ HS.out).mono ?_; rintro e w3 ⟨rfl, hb3⟩; have hI3 := (HI.out.call hsz hb3); have HI3 := Lib.hid hI3; clear hI3)
     | (go_at_call 114; refine (Bd.writeString w.heap.size w.heap.size _ s _ HI3.out.1 (by rw [Lib.byteCells_length]; exact cs) HI3.out.2.size).mono ?_; rintro e w4 ⟨rfl, hI4, hb4, -⟩; have HI4 := Lib.hid hI4; clear hI4))
    go_roundw
    case rel =>
     refine ⟨n + 1, acc ++ s.data.toList, by omega, by go_num, ⟨.inr ?_, HI3.out.2.trans hb4⟩, by simpa using cs, HC.out⟩
     rw [Lib.byteCells_append]; exact HI4.out
    case measure => simp [intOf]; omega
  · rw [List.drop_of_length_le (by omega)] at hcat
    obtain rfl := Option.some.inj hcat
    have HI := Lib.hid hI
    clear hI hcat
    go_wp2_with (go_at_call 115; refine (Bd.toString_any w.heap.size w.heap.size acc _ HI.out.1 hsz).mono ?_; rintro e w5 ⟨rfl, hb5⟩)
    go_ret
    have hq := HEQ.out
    obtain rfl := Option.some.inj hq
    exact ⟨rfl, HI.out.2.trans hb5⟩
set_option maxRecDepth 100000 in
set_option maxHeartbeats 1000000 in
theorem list_string (k : Nat) (A : Option Addr) (c : Nat) (l : List ByteArray) (r : ByteArray) (w : World) (hr : Kd.C Kd.string w A l.length l) (h : listF (wire_Int.f k) (wire_Text.f k) l = some r) :
 Calls Try.prog 95 #[.slice A l.length c, .func (.func 49) #[] #[]] w fun e w' => e = .returned (.string r) ∧ Below w.heap.size w w' := by
 have hl : l.length ≤ 9223372036854775807 := hr.2.1
 obtain ⟨hd, hhd, h⟩ := Option.bind_eq_some_iff.1 h
 by_cases chd : hd.size ≤ 140737488355328
 case neg => rw [if_neg chd] at h; cases h
 rw [if_pos chd] at h
 obtain ⟨res, hres, h⟩ := Option.bind_eq_some_iff.1 h
 have HR0 := Lib.hid hr
 have HHD := Lib.hid hhd
 have HRES := Lib.hid hres
 have HEQ := Lib.hid h
 have hfr := Lib.IsBuilderF.of (Lib.fresh_isBuilder 179 5 w)
 have hbf : Below w.heap.size w (w.alloc (.cells #[.pointer none, .slice none 0 0] 179)) := (Below.refl _ _).alloc (Nat.le_refl _) _
 have HFR := Lib.hid hfr
 clear hr hhd hres h hfr
 go_enter Try.func95, Try.ntmps95
 go_wp2_with (first
  | (go_at_call 50; refine (wire_Int.calls k _ hd _ HHD.out).mono ?_; rintro e w1 ⟨rfl, hb1⟩; have hI1 := builder_below HFR.out hb1; have HI1 := Lib.hid hI1; clear hI1; have hB1 := hbf.trans (hb1.mono (by simp)))
  | (go_at_call 114; refine (Bd.writeString w.heap.size w.heap.size [] hd _ HI1.out (by simpa using chd) hB1.size).mono ?_; rintro e w2 ⟨rfl, hI2, hb2, -⟩; have HI2 := Lib.hid hI2; clear hI2))
 go_loopw [14] (fun i wr => ∃ (n : Nat) (acc : List UInt8), n ≤ l.length ∧ i = .int .i64 n ∧ LI w.heap.size w acc wr ∧ acc.length ≤ 140737488355328 ∧ cat (wire_Text.f k) (l.drop n) acc = some res) (fun i _ => l.length - (intOf i).toNat)
 case atStart =>
  refine ⟨0, hd.data.toList, Nat.zero_le _, rfl, ⟨.inr ?_, hB1.trans hb2⟩, by simpa using chd, HRES.out⟩
  simpa using HI2.out
 case round =>
  obtain ⟨n, acc, hn, rfl, hI, hacc, hcat⟩ := hrel
  have hsz := hI.2.size
  by_cases hlt : n < l.length
  · obtain ⟨ad, rfl, hcell⟩ := Kd.at_string (Kd.C_below HR0.out hI.2) (n : Int) (by omega) (by omega)
    have hget : l[n]? = some (rdOf ByteArray.empty l (n : Int)) := by simp [rdOf, List.getD_eq_getElem?_getD, List.getElem?_eq_getElem hlt]
    have hdr : l.drop n = rdOf ByteArray.empty l (n : Int) :: l.drop (n + 1) := by
     rw [List.drop_eq_getElem_cons hlt]
     rw [List.getElem?_eq_getElem hlt] at hget
     rw [Option.some.inj hget]
    rw [hdr] at hcat
    unfold cat at hcat
    obtain ⟨s, hs, hcat⟩ := Option.bind_eq_some_iff.1 hcat
    by_cases cs : acc.length + s.size ≤ 140737488355328
    case neg => rw [if_neg cs] at hcat; cases hcat
    rw [if_pos cs] at hcat
    have HS := Lib.hid hs
    have HC := Lib.hid hcat
    have HI := Lib.hid hI
    clear hs hcat hI hget hdr
    rw [Int.toNat_natCast] at hcell
    generalize rdOf ByteArray.empty l (n : Int) = x at *
    go_wp2_with (first
     | (go_at_call 49; refine (wire_Text.calls k x s _ HS.out).mono ?_; rintro e w3 ⟨rfl, hb3⟩; have hI3 := (HI.out.call hsz hb3); have HI3 := Lib.hid hI3; clear hI3)
     | (go_at_call 114; refine (Bd.writeString w.heap.size w.heap.size _ s _ HI3.out.1 (by rw [Lib.byteCells_length]; exact cs) HI3.out.2.size).mono ?_; rintro e w4 ⟨rfl, hI4, hb4, -⟩; have HI4 := Lib.hid hI4; clear hI4))
    go_roundw
    case rel =>
     refine ⟨n + 1, acc ++ s.data.toList, by omega, by go_num, ⟨.inr ?_, HI3.out.2.trans hb4⟩, by simpa using cs, HC.out⟩
     rw [Lib.byteCells_append]; exact HI4.out
    case measure => simp [intOf]; omega
  · rw [List.drop_of_length_le (by omega)] at hcat
    obtain rfl := Option.some.inj hcat
    have HI := Lib.hid hI
    clear hI hcat
    go_wp2_with (go_at_call 115; refine (Bd.toString_any w.heap.size w.heap.size acc _ HI.out.1 hsz).mono ?_; rintro e w5 ⟨rfl, hb5⟩)
    go_ret
    have hq := HEQ.out
    obtain rfl := Option.some.inj hq
    exact ⟨rfl, HI.out.2.trans hb5⟩
def wire_Ints.f (k : Nat) (l0 : List Int) : Option ByteArray := listF (wire_Int.f k) (wire_Int.f k) l0
def wire_Texts.f (k : Nat) (l0 : List ByteArray) : Option ByteArray := listF (wire_Int.f k) (wire_Text.f k) l0
theorem wire_Ints.calls (k : Nat) (A0 : Option Addr) (c0 : Nat) (l0 : List Int) (r : ByteArray) (w : World) (hr0 : Kd.C (Kd.int .i64) w A0 l0.length l0) (hc0 : l0.length ≤ c0) (h : wire_Ints.f k l0 = some r) :
 Calls Try.prog 51 #[.slice A0 l0.length c0] w fun e w' => e = .returned (.string r) ∧ Below w.heap.size w w' := by
 have HR := Lib.hid hr0
 have HH := Lib.hid h
 clear hr0 h
 go_enter Try.func51, Try.ntmps51
 go_wp2_with (go_at_call 91; refine (list_int k A0 c0 l0 r _ HR.out HH.out).mono ?_; rintro e w1 ⟨rfl, hb1⟩)
 go_ret
 exact ⟨rfl, hb1⟩
theorem wire_Texts.calls (k : Nat) (A0 : Option Addr) (c0 : Nat) (l0 : List ByteArray) (r : ByteArray) (w : World) (hr0 : Kd.C Kd.string w A0 l0.length l0) (hc0 : l0.length ≤ c0) (h : wire_Texts.f k l0 = some r) :
 Calls Try.prog 60 #[.slice A0 l0.length c0] w fun e w' => e = .returned (.string r) ∧ Below w.heap.size w w' := by
 have HR := Lib.hid hr0
 have HH := Lib.hid h
 clear hr0 h
 go_enter Try.func60, Try.ntmps60
 go_wp2_with (go_at_call 95; refine (list_string k A0 c0 l0 r _ HR.out HH.out).mono ?_; rintro e w1 ⟨rfl, hb1⟩)
 go_ret
 exact ⟨rfl, hb1⟩
def readL {α : Type} (nx : ByteArray → Bool → Option (α × ByteArray × Bool)) (lim : Nat) : Nat → List α → ByteArray → Bool → Option (List α × ByteArray × Bool)
 | 0, acc, s, b => some (acc, s, b)
 | n + 1, acc, s, b => (nx s b).bind fun q => if q.2.2 = true then some ([], q.2.1, q.2.2) else if acc.length < lim then readL nx lim n (acc ++ [q.1]) q.2.1 q.2.2 else none
def RI (w0 w : World) (g : Nat) (s : ByteArray) (b : Bool) (W : World) : Prop := IsS161 w0 W g s b ∧ Below w0.heap.size w0 W ∧ KeepBut w W g none
theorem RI.step {w0 w W W' : World} {g : Nat} {s s' : ByteArray} {b b' : Bool} (h : RI w0 w g s b W) (h1 : IsS161 w0 W' g s' b') (h2 : Below w0.heap.size w0 W') (h3 : KeepBut W W' g none) : RI w0 w g s' b' W' :=
 ⟨h1, h2, KeepBut.trans h.2.2 h3 (.inl rfl)⟩
theorem R_past {α : Type} {d : Kd α} {e base : Nat} {w0 W W' : World} {g : Nat} {s : ByteArray} {b : Bool} {v : Value} {xs : List α} (hI : IsS161 w0 W g s b) (hO : d.R e W base (fun _ => True) v xs) (ht : ∀ q, q ∈ e :: d.E → q ≠ 161) (hK : KeepBut W W' g none) : d.R e W' base (fun _ => True) v xs :=
 Kd.R_mono (Kd.R_keep (hI.apart hO ht) hK (fun _ h => h.2)) (fun _ _ => trivial)
theorem RI.grown {w0 w W W' : World} {g : Nat} {s : ByteArray} {b : Bool} {row : Option Nat} (h : RI w0 w g s b W) (hg : W.grownBy W' row) (hne : some g ≠ row) (hb : Below w.heap.size W W') (hw : w0.heap.size ≤ w.heap.size) : RI w0 w g s b W' :=
 ⟨h.1.grown hg hne, h.2.1.trans (hb.mono hw), Nat.le_trans h.2.2.1 hb.size, fun i hi hgi hr => (hb.block i hi).trans (h.2.2.2 i hi hgi hr)⟩
set_option maxRecDepth 100000 in
set_option maxHeartbeats 1000000 in
theorem read_int (k g : Nat) (s0 : ByteArray) (b0 : Bool) (r1 : List Int) (r2 : ByteArray) (r3 : Bool) (w0 w : World) (hI : IsS161 w0 w g s0 b0) (hB : Below w0.heap.size w0 w)
 (h : ((wire_Reader_length.f k s0 b0).bind fun q => if q.1 ≤ 9223372036854775807 then readL (wire_Reader_Int.f k) 17592186044416 q.1.toNat [] q.2.1 q.2.2 else none) = some (r1, r2, r3)) :
 Calls Try.prog 116 #[.pointer (some ⟨g, 0, none⟩), .func (.func 57) #[.pointer (some ⟨g, 0, none⟩)] #[]] w
  fun e w' => ∃ v0_ : Value, e = .returned v0_ ∧ Kd.R (Kd.int .i64) 3 w' w.heap.size (fun _ => True) v0_ r1 ∧ IsS161 w0 w' g r2 r3 ∧ Below w0.heap.size w0 w' ∧ KeepBut w w' g none := by
 obtain ⟨q, hq, h⟩ := Option.bind_eq_some_iff.1 h
 obtain ⟨N, s1, b1⟩ := q
 by_cases hN : N ≤ 9223372036854775807
 case neg => rw [if_neg hN] at h; cases h
 rw [if_pos hN] at h
 have hsz0 : w0.heap.size ≤ w.heap.size := hB.size
 have HQ := Lib.hid hq
 have HH := Lib.hid h
 have HI0 := Lib.hid hI
 clear hq h hI
 go_enter Try.func116, Try.ntmps116
 go_wp2_with (go_at_call 93; refine (wire_Reader_length.calls k g s0 b0 N s1 b1 w0 _ HI0.out hB HQ.out).mono ?_; rintro e w1 ⟨rfl, hi1, hb1, hk1⟩; have HI1 := Lib.hid hi1; clear hi1)
 go_loopw [4, 8] (fun v i wr => ∃ (n : Nat) (acc : List Int) (s : ByteArray) (b : Bool), i = .int .i64 n ∧ n ≤ N.toNat ∧ RI w0 w g s b wr ∧ Kd.R (Kd.int .i64) 3 wr w.heap.size (fun _ => True) v acc ∧ readL (wire_Reader_Int.f k) 17592186044416 (N.toNat - n) acc s b = some (r1, r2, r3)) (fun _ i _ => N.toNat - (intOf i).toNat)
 case atStart => exact ⟨0, [], s1, b1, rfl, Nat.zero_le _, ⟨HI1.out, hb1, hk1⟩, Kd.R_nil _ _ _ _ _, HH.out⟩
 case round =>
  obtain ⟨n, acc, s, b, rfl, hn, hR, hO, hc⟩ := hrel
  by_cases hlt : (n : Int) < N
  · obtain ⟨m, hm⟩ : ∃ m, N.toNat - n = m + 1 := ⟨N.toNat - n - 1, by omega⟩
    rw [hm] at hc
    unfold readL at hc
    obtain ⟨q, hq, hc⟩ := Option.bind_eq_some_iff.1 hc
    obtain ⟨x, s', b'⟩ := q
    have HR := Lib.hid hR
    have HO := Lib.hid hO
    have HC := Lib.hid hc
    have HN := Lib.hid hq
    have HM := Lib.hid hm
    clear hR hO hc hq hm
    cases b' with
    | true =>
      go_wp2_with (first
       | (go_at_call 57; refine (wire_Reader_Int.calls k g s b x s' true w0 _ HR.out.1 HR.out.2.1 HN.out).mono ?_; rintro e w2 ⟨rfl, hi2, hb2, hk2⟩; have hR2 := HR.out.step hi2 hb2 hk2; have HR2 := Lib.hid hR2; clear hR2 hi2 hb2 hk2)
       | (go_at_call 58; refine (wire_Reader_Bad.calls g s' true true s' true w0 _ HR2.out.1 HR2.out.2.1 rfl).mono ?_; rintro e w3 ⟨rfl, hi3, hb3, hk3⟩; have hR3 := HR2.out.step hi3 hb3 hk3; have HR3 := Lib.hid hR3; clear hR3 hi3 hb3 hk3))
      go_ret
      have hq := HC.out
      simp only [if_true] at hq
      obtain ⟨rfl, rfl, rfl⟩ : [] = r1 ∧ s' = r2 ∧ true = r3 := by simpa using hq
      exact ⟨_, rfl, Kd.R_nil _ _ _ _ _, HR3.out.1, HR3.out.2.1, HR3.out.2.2⟩
    | false =>
      have hq := HC.out
      simp only [Bool.false_eq_true, if_false] at hq
      by_cases hlim : acc.length < 17592186044416
      case neg => rw [if_neg hlim] at hq; cases hq
      rw [if_pos hlim] at hq
      have HC2 := Lib.hid hq
      clear hq HC
      go_wp2_with (first
       | (go_at_call 57; refine (wire_Reader_Int.calls k g s b x s' false w0 _ HR.out.1 HR.out.2.1 HN.out).mono ?_; rintro e w2 ⟨rfl, hi2, hb2, hk2⟩; have hR2 := HR.out.step hi2 hb2 hk2; have hO2 := R_past HR.out.1 HO.out (by decide) hk2; have HR2 := Lib.hid hR2; have HO2 := Lib.hid hO2; clear hR2 hO2 hi2 hb2 hk2)
       | (go_at_call 58; refine (wire_Reader_Bad.calls g s' false false s' false w0 _ HR2.out.1 HR2.out.2.1 rfl).mono ?_; rintro e w3 ⟨rfl, hi3, hb3, hk3⟩; have hR3 := HR2.out.step hi3 hb3 hk3; have hO3 := R_past HR2.out.1 HO2.out (by decide) hk3; have HR3 := Lib.hid hR3; have HO3 := Lib.hid hO3; clear hR3 hO3 hi3 hb3 hk3)
       | ((with_reducible refine gate_builtin (b := .append) (xs := #[.tmp 14, .tmp 16]) rfl ?_); at_builtin; refine Kd.R_append (Kd.int .i64) (w0 := w3) w.heap.size rfl (.tmp 14) (.tmp 16) 23 3 (.int .i64 0) 8 rfl Try.underlying23 infoInt rfl (by decide) (by omega) u4 acc x [.int .i64 x] (fun _ => True) (fun _ => False) rfl rfl ?aP (fun _ hk => hk.elim) ?aF ?aO ?aB ?aS ?aL ?_; (case aP => exact rfl); (case aB => exact Below.refl _ _); (case aF => exact (fun _ _ => trivial)); (case aO => exact HO3.out); (case aS => exact HR3.out.2.2.1); (case aL => omega); intro v5 w6 ho hb hg hat; have hR6 := HR3.out.grown hg (HR3.out.1.own_ne HO3.out (by decide)) hb hsz0; have HR6 := Lib.hid hR6; have HO6 := Lib.hid ho; clear hR6 ho hg hat))
      go_roundw
      case rel =>
       refine ⟨n + 1, acc ++ [x], s', false, by go_num, by omega, HR6.out, HO6.out, ?_⟩
       have e := HM.out
       rw [show N.toNat - (n + 1) = m by omega]
       exact HC2.out
      case measure => simp [intOf]; omega
  · rw [show N.toNat - n = 0 by omega] at hc
    unfold readL at hc
    obtain ⟨rfl, rfl, rfl⟩ : acc = r1 ∧ s = r2 ∧ b = r3 := by simpa using hc
    have HR := Lib.hid hR
    have HO := Lib.hid hO
    clear hR hO hc
    go_wp2
    go_ret
    exact ⟨_, rfl, HO.out, HR.out.1, HR.out.2.1, HR.out.2.2⟩
def wire_Reader_Ints.f (k : Nat) (s0_0 : ByteArray) (s0_1 : Bool) : Option (List Int × ByteArray × Bool) := (wire_Reader_length.f k s0_0 s0_1).bind fun q => if q.1 ≤ 9223372036854775807 then readL (wire_Reader_Int.f k) 17592186044416 q.1.toNat [] q.2.1 q.2.2 else none
theorem wire_Reader_Ints.calls (k : Nat) (g : Nat) (s0_0 : ByteArray) (s0_1 : Bool) (r1 : List Int) (r2 : ByteArray) (r3 : Bool) (w0 w : World) (hI : IsS161 w0 w g s0_0 s0_1) (hB : Below w0.heap.size w0 w) (h : wire_Reader_Ints.f k s0_0 s0_1 = some (r1, r2, r3)) :
 Calls Try.prog 97 #[.pointer (some ⟨g, 0, none⟩)] w fun e w' => ∃ v0_ : Value, e = .returned v0_ ∧ Kd.R (Kd.int .i64) 3 w' w.heap.size (fun _ => True) v0_ r1 ∧ IsS161 w0 w' g r2 r3 ∧ Below w0.heap.size w0 w' ∧ KeepBut w w' g none := by
 have HI := Lib.hid hI
 have HH := Lib.hid h
 clear hI h
 go_enter Try.func97, Try.ntmps97
 go_wp2_with (go_at_call 116; refine (read_int k g s0_0 s0_1 r1 r2 r3 w0 _ HI.out hB HH.out).mono ?_; rintro e w1 ⟨v, rfl, h1, h2, h3, h4⟩)
 go_ret
 exact ⟨_, rfl, h1, h2, h3, h4⟩
set_option maxRecDepth 100000 in
set_option maxHeartbeats 1000000 in
theorem read_string (k g : Nat) (s0 : ByteArray) (b0 : Bool) (r1 : List ByteArray) (r2 : ByteArray) (r3 : Bool) (w0 w : World) (hI : IsS161 w0 w g s0 b0) (hB : Below w0.heap.size w0 w)
 (h : ((wire_Reader_length.f k s0 b0).bind fun q => if q.1 ≤ 9223372036854775807 then readL (wire_Reader_Text.f k) 8796093022208 q.1.toNat [] q.2.1 q.2.2 else none) = some (r1, r2, r3)) :
 Calls Try.prog 96 #[.pointer (some ⟨g, 0, none⟩), .func (.func 56) #[.pointer (some ⟨g, 0, none⟩)] #[]] w
  fun e w' => ∃ v0_ : Value, e = .returned v0_ ∧ Kd.R Kd.string 9 w' w.heap.size (fun _ => True) v0_ r1 ∧ IsS161 w0 w' g r2 r3 ∧ Below w0.heap.size w0 w' ∧ KeepBut w w' g none := by
 obtain ⟨q, hq, h⟩ := Option.bind_eq_some_iff.1 h
 obtain ⟨N, s1, b1⟩ := q
 by_cases hN : N ≤ 9223372036854775807
 case neg => rw [if_neg hN] at h; cases h
 rw [if_pos hN] at h
 have hsz0 : w0.heap.size ≤ w.heap.size := hB.size
 have HQ := Lib.hid hq
 have HH := Lib.hid h
 have HI0 := Lib.hid hI
 clear hq h hI
 go_enter Try.func96, Try.ntmps96
 go_wp2_with (go_at_call 93; refine (wire_Reader_length.calls k g s0 b0 N s1 b1 w0 _ HI0.out hB HQ.out).mono ?_; rintro e w1 ⟨rfl, hi1, hb1, hk1⟩; have HI1 := Lib.hid hi1; clear hi1)
 go_loopw [4, 8] (fun v i wr => ∃ (n : Nat) (acc : List ByteArray) (s : ByteArray) (b : Bool), i = .int .i64 n ∧ n ≤ N.toNat ∧ RI w0 w g s b wr ∧ Kd.R Kd.string 9 wr w.heap.size (fun _ => True) v acc ∧ readL (wire_Reader_Text.f k) 8796093022208 (N.toNat - n) acc s b = some (r1, r2, r3)) (fun _ i _ => N.toNat - (intOf i).toNat)
 case atStart => exact ⟨0, [], s1, b1, rfl, Nat.zero_le _, ⟨HI1.out, hb1, hk1⟩, Kd.R_nil _ _ _ _ _, HH.out⟩
 case round =>
  obtain ⟨n, acc, s, b, rfl, hn, hR, hO, hc⟩ := hrel
  by_cases hlt : (n : Int) < N
  · obtain ⟨m, hm⟩ : ∃ m, N.toNat - n = m + 1 := ⟨N.toNat - n - 1, by omega⟩
    rw [hm] at hc
    unfold readL at hc
    obtain ⟨q, hq, hc⟩ := Option.bind_eq_some_iff.1 hc
    obtain ⟨x, s', b'⟩ := q
    have HR := Lib.hid hR
    have HO := Lib.hid hO
    have HC := Lib.hid hc
    have HN := Lib.hid hq
    have HM := Lib.hid hm
    clear hR hO hc hq hm
    cases b' with
    | true =>
      go_wp2_with (first
       | (go_at_call 56; refine (wire_Reader_Text.calls k g s b x s' true w0 _ HR.out.1 HR.out.2.1 HN.out).mono ?_; rintro e w2 ⟨rfl, hi2, hb2, hk2⟩; have hR2 := HR.out.step hi2 hb2 hk2; have HR2 := Lib.hid hR2; clear hR2 hi2 hb2 hk2)
       | (go_at_call 58; refine (wire_Reader_Bad.calls g s' true true s' true w0 _ HR2.out.1 HR2.out.2.1 rfl).mono ?_; rintro e w3 ⟨rfl, hi3, hb3, hk3⟩; have hR3 := HR2.out.step hi3 hb3 hk3; have HR3 := Lib.hid hR3; clear hR3 hi3 hb3 hk3))
      go_ret
      have hq := HC.out
      simp only [if_true] at hq
      obtain ⟨rfl, rfl, rfl⟩ : [] = r1 ∧ s' = r2 ∧ true = r3 := by simpa using hq
      exact ⟨_, rfl, Kd.R_nil _ _ _ _ _, HR3.out.1, HR3.out.2.1, HR3.out.2.2⟩
    | false =>
      have hq := HC.out
      simp only [Bool.false_eq_true, if_false] at hq
      by_cases hlim : acc.length < 8796093022208
      case neg => rw [if_neg hlim] at hq; cases hq
      rw [if_pos hlim] at hq
      have HC2 := Lib.hid hq
      clear hq HC
      go_wp2_with (first
       | (go_at_call 56; refine (wire_Reader_Text.calls k g s b x s' false w0 _ HR.out.1 HR.out.2.1 HN.out).mono ?_; rintro e w2 ⟨rfl, hi2, hb2, hk2⟩; have hR2 := HR.out.step hi2 hb2 hk2; have hO2 := R_past HR.out.1 HO.out (by decide) hk2; have HR2 := Lib.hid hR2; have HO2 := Lib.hid hO2; clear hR2 hO2 hi2 hb2 hk2)
       | (go_at_call 58; refine (wire_Reader_Bad.calls g s' false false s' false w0 _ HR2.out.1 HR2.out.2.1 rfl).mono ?_; rintro e w3 ⟨rfl, hi3, hb3, hk3⟩; have hR3 := HR2.out.step hi3 hb3 hk3; have hO3 := R_past HR2.out.1 HO2.out (by decide) hk3; have HR3 := Lib.hid hR3; have HO3 := Lib.hid hO3; clear hR3 hO3 hi3 hb3 hk3)
       | ((with_reducible refine gate_builtin (b := .append) (xs := #[.tmp 14, .tmp 16]) rfl ?_); at_builtin; refine Kd.R_append Kd.string (w0 := w3) w.heap.size rfl (.tmp 14) (.tmp 16) 53 9 (.string ⟨#[]⟩) 16 rfl Try.underlying53 infoStr rfl (by decide) (by omega) u4 acc x [.string x] (fun _ => True) (fun _ => False) rfl rfl ?aP (fun _ hk => hk.elim) ?aF ?aO ?aB ?aS ?aL ?_; (case aP => exact rfl); (case aB => exact Below.refl _ _); (case aF => exact (fun _ _ => trivial)); (case aO => exact HO3.out); (case aS => exact HR3.out.2.2.1); (case aL => omega); intro v5 w6 ho hb hg hat; have hR6 := HR3.out.grown hg (HR3.out.1.own_ne HO3.out (by decide)) hb hsz0; have HR6 := Lib.hid hR6; have HO6 := Lib.hid ho; clear hR6 ho hg hat))
      go_roundw
      case rel =>
       refine ⟨n + 1, acc ++ [x], s', false, by go_num, by omega, HR6.out, HO6.out, ?_⟩
       have e := HM.out
       rw [show N.toNat - (n + 1) = m by omega]
       exact HC2.out
      case measure => simp [intOf]; omega
  · rw [show N.toNat - n = 0 by omega] at hc
    unfold readL at hc
    obtain ⟨rfl, rfl, rfl⟩ : acc = r1 ∧ s = r2 ∧ b = r3 := by simpa using hc
    have HR := Lib.hid hR
    have HO := Lib.hid hO
    clear hR hO hc
    go_wp2
    go_ret
    exact ⟨_, rfl, HO.out, HR.out.1, HR.out.2.1, HR.out.2.2⟩
def wire_Reader_Texts.f (k : Nat) (s0_0 : ByteArray) (s0_1 : Bool) : Option (List ByteArray × ByteArray × Bool) := (wire_Reader_length.f k s0_0 s0_1).bind fun q => if q.1 ≤ 9223372036854775807 then readL (wire_Reader_Text.f k) 8796093022208 q.1.toNat [] q.2.1 q.2.2 else none
theorem wire_Reader_Texts.calls (k : Nat) (g : Nat) (s0_0 : ByteArray) (s0_1 : Bool) (r1 : List ByteArray) (r2 : ByteArray) (r3 : Bool) (w0 w : World) (hI : IsS161 w0 w g s0_0 s0_1) (hB : Below w0.heap.size w0 w) (h : wire_Reader_Texts.f k s0_0 s0_1 = some (r1, r2, r3)) :
 Calls Try.prog 61 #[.pointer (some ⟨g, 0, none⟩)] w fun e w' => ∃ v0_ : Value, e = .returned v0_ ∧ Kd.R Kd.string 9 w' w.heap.size (fun _ => True) v0_ r1 ∧ IsS161 w0 w' g r2 r3 ∧ Below w0.heap.size w0 w' ∧ KeepBut w w' g none := by
 have HI := Lib.hid hI
 have HH := Lib.hid h
 clear hI h
 go_enter Try.func61, Try.ntmps61
 go_wp2_with (go_at_call 96; refine (read_string k g s0_0 s0_1 r1 r2 r3 w0 _ HI.out hB HH.out).mono ?_; rintro e w1 ⟨v, rfl, h1, h2, h3, h4⟩)
 go_ret
 exact ⟨_, rfl, h1, h2, h3, h4⟩
open Go.RowKit Go.Proofs.YthokkeljfdfppaaW.PrintWords Go.Proofs.YthokkeljfdfppaaW.PrintLast Go.Proofs.YthokkeljfdfppaaW.PrintMore Go.Proofs.Ythokkeljfdfppaa.Pb
def cntF (s : ByteArray) (i : Nat) : Nat → Nat → Nat
 | 0, n => n
 | f + 1, n => if n < s.size - i ∧ 128 ≤ bt s ((i + n : Nat) : Int) then cntF s i f (n + 1) else n
def RJ (w0 w : World) (g : Nat) (s : ByteArray) (i : Int) (b : Bool) (W : World) : Prop := IsS111 w0 W g s i b ∧ Below w0.heap.size w0 W ∧ KeepBut w W g none
theorem RJ.a {w0 w W : World} {g : Nat} {s : ByteArray} {i : Int} {b : Bool} (h : RJ w0 w g s i b W) : IsS111 w0 W g s i b := h.1
theorem RJ.d {w0 w W : World} {g : Nat} {s : ByteArray} {i : Int} {b : Bool} (h : RJ w0 w g s i b W) : Below w0.heap.size w0 W := h.2.1
theorem RJ.step {w0 w W W' : World} {g : Nat} {s s' : ByteArray} {i i' : Int} {b b' : Bool} (h : RJ w0 w g s i b W) (h1 : IsS111 w0 W' g s' i' b') (h2 : Below w0.heap.size w0 W') (h3 : KeepBut W W' g none) : RJ w0 w g s' i' b' W' :=
 ⟨h1, h2, KeepBut.trans h.2.2 h3 (.inl rfl)⟩
theorem Left_ref (s : ByteArray) (i : Nat) (hi : i ≤ s.size) (hs : s.size ≤ 1152921504606846976) : abugidaref02_Reader_Left.f s (i : Int) false = some (((s.size - i : Nat) : Int), s, (i : Int), false) := by
 simp [abugidaref02_Reader_Left.f, abugidaref02_Reader_Bad.f]
 unfold wrap64
 omega
theorem Bad_q (g : Nat) (s : ByteArray) (i : Int) (b : Bool) (w : World) (h : w.heap[g]? = some (.cells #[.string s, .int .i64 i, .bool b] 111 (0, 0))) :
 Calls Try.prog 99 #[.pointer (some ⟨g, 0, none⟩)] w fun e w' => e = .returned (.bool b) ∧ ∃ m, w' = w.drewN m := by
 have q2 := cellS111_2 h
 have HH := Lib.hid h
 clear h
 go_enter Try.func99, Try.ntmps99
 go_wp2
 all_goals try go_quiet (fail)
 all_goals try go_wp2
 all_goals go_ret
 all_goals first | exact ⟨rfl, _, rfl⟩ | exact ⟨rfl, 0, rfl⟩
theorem Left_q (g : Nat) (s : ByteArray) (i : Nat) (w : World) (hi : i ≤ s.size) (hs : s.size ≤ 1152921504606846976) (h : w.heap[g]? = some (.cells #[.string s, .int .i64 i, .bool false] 111 (0, 0))) :
 Calls Try.prog 69 #[.pointer (some ⟨g, 0, none⟩)] w fun e w' => e = .returned (.int .i64 ((s.size - i : Nat) : Int)) ∧ ∃ m, w' = w.drewN m := by
 have q0 := cellS111_0 h
 have q1 := cellS111_1 h
 have e3 : wrap64 ((s.size : Int) - (i : Int)) = ((s.size - i : Nat) : Int) := by unfold wrap64; omega
 have HH := Lib.hid h
 clear h
 go_enter Try.func69, Try.ntmps69
 go_wp2_with (go_at_call 99; refine (Bad_q g s i false _ HH.out).mono ?_; rintro e w1 ⟨rfl, m1, rfl⟩)
 all_goals try go_quiet (fail)
 all_goals try go_wp2
 go_ret
 refine ⟨?_, _, by first | rfl | exact World.drewN_drewN _ _ _⟩
 show Ending.returned (.int .i64 ((s.size : Int) - (i : Int))) = _
 rw [show (s.size : Int) - (i : Int) = ((s.size - i : Nat) : Int) by omega]
theorem RJ.drewN {w0 w W : World} {g : Nat} {s : ByteArray} {i : Int} {b : Bool} (h : RJ w0 w g s i b W) (m : Nat) : RJ w0 w g s i b (W.drewN m) := ⟨h.1.drewN m, pw_below_drewN h.2.1 m, h.2.2⟩
def codeAt (s : ByteArray) (i : Nat) : Nat → Int → Int
 | 0, c => c
 | m + 1, c => codeAt s i m (IntKind.u64.wrap (IntKind.u64.wrap (c * 128) + IntKind.u64.wrap (bt s ((i + m : Nat) : Int) % 128)))
set_option maxRecDepth 100000 in
set_option maxHeartbeats 4000000 in
theorem ref_walk (k g : Nat) (s : ByteArray) (i : Nat) (hi : i ≤ s.size) (hs : s.size ≤ 1152921504606846976) (w0 w : World) (hI : IsS111 w0 w g s i false) (hB : Below w0.heap.size w0 w)
 (hbad : cntF s i 10 0 = 10 ∨ s.size - i ≤ cntF s i 10 0) :
 Calls Try.prog 67 #[.pointer (some ⟨g, 0, none⟩)] w fun e w' => e = .returned (.int .i64 0) ∧ IsS111 w0 w' g s i true ∧ Below w0.heap.size w0 w' ∧ KeepBut w w' g none := by
 have HL := Lib.hid (Left_ref s i hi hs)
 have HI := Lib.hid hI
 have HBAD := Lib.hid hbad
 clear hI hbad
 go_enter Try.func67, Try.ntmps67
 go_wp2
 go_loopw [3] (fun v wr => ∃ n : Nat, n ≤ 10 ∧ v = .int .i64 n ∧ RJ w0 w g s i false wr ∧ cntF s i (10 - n) n = cntF s i 10 0) (fun v _ => 10 - (intOf v).toNat)
 case atStart => exact ⟨0, by omega, rfl, ⟨HI.out, hB, KeepBut.refl _ _ _⟩, rfl⟩
 case round =>
  obtain ⟨n, hn, rfl, hR, hc⟩ := hrel
  have HR := Lib.hid hR
  have HC := Lib.hid hc
  clear hR hc
  by_cases h1 : n < 10
  · have e1 : decide ((n : Int) < 10) = true := decide_eq_true (by omega)
    have e1' : ((n : Int) == 10) = false := beq_eq_false_iff_ne.mpr (by omega)
    by_cases h2 : n < s.size - i
    · have e2 : decide ((n : Int) < ((s.size - i : Nat) : Int)) = true := decide_eq_true (by omega)
      obtain ⟨jj, hjj⟩ : ∃ jj : Int, jj = ((i + n : Nat) : Int) := ⟨_, rfl⟩
      have e3 : IntKind.i64.wrap ((i : Int) + (n : Int)) = jj := by rw [hjj, IntKind.wrap_i64]; omega
      have e3' : wrap64 ((i : Int) + (n : Int)) = jj := by rw [hjj]; unfold wrap64; omega
      have p18 : (0 ≤ jj) = True := eq_true (by omega)
      have q18 : (jj < (s.size : Int)) = True := eq_true (by omega)
      have hx18 : ∀ (h : jj.toNat < s.size), ((s[jj.toNat]'h).toNat : Int) = bt s jj := fun h => by unfold bt; rw [dif_pos h]
      by_cases h3 : 128 ≤ bt s jj
      · have e4 : decide (128 ≤ bt s jj) = true := decide_eq_true h3
        have hnext : cntF s i (10 - (n + 1)) (n + 1) = cntF s i 10 0 := by
         have := HC.out
         rw [show 10 - n = (10 - (n + 1)) + 1 by omega] at this
         rw [← this]
         conv => rhs; unfold cntF
         rw [if_pos ⟨h2, by rw [← hjj]; exact h3⟩]
        have HJ := Lib.hid hjj
        have HN := Lib.hid hnext
        clear hjj hnext h3
        go_wp2
        have q0 := cellS111_0 HR.out.a.1
        have q1 := cellS111_1 HR.out.a.1
        go_quiet ((go_at_call 69; exact Calls.quiet_of (Left_q g s i _ hi hs HR.out.a.1)))
        go_wp2
        go_roundw
        case rel => exact ⟨n + 1, by omega, by go_num, HR.out.drewN _, HN.out⟩
        case measure => simp [intOf]; omega
      · exfalso
        have := HC.out
        rw [show 10 - n = (10 - (n + 1)) + 1 by omega] at this
        have h6 : cntF s i (10 - (n + 1) + 1) n = n := by unfold cntF; rw [if_neg (fun h => h3 (by rw [hjj]; exact h.2))]
        rw [h6] at this
        have hb := HBAD.out
        rw [← this] at hb
        omega
    · have e2 : decide ((n : Int) < ((s.size - i : Nat) : Int)) = false := decide_eq_false (by omega)
      have e2' : decide (((s.size - i : Nat) : Int) ≤ (n : Int)) = true := decide_eq_true (by omega)
      have q0 := cellS111_0 HR.out.a.1
      have q1 := cellS111_1 HR.out.a.1
      go_wp2
      go_quiet ((go_at_call 69; exact Calls.quiet_of (Left_q g s i _ hi hs HR.out.a.1)))
      go_wp2_with (first
       | (go_at_call 69; refine (Left_q g s i _ hi hs (HR.out.drewN _).a.1).mono ?_; rintro e wx ⟨rfl, mx, rfl⟩)
       | (go_at_call 100; with_reducible refine (abugidaref02_Reader_fail.calls g s (i : Int) false s (i : Int) true w0 _ (HR.out.drewN _).a (HR.out.drewN _).d rfl).mono ?_; rintro e wy ⟨rfl, hiy, hby, hky⟩))
      go_ret
      exact ⟨rfl, hiy, hby, ((HR.out.drewN _).step hiy hby hky).2.2⟩
  · obtain rfl : n = 10 := by omega
    have q0 := cellS111_0 HR.out.a.1
    have q1 := cellS111_1 HR.out.a.1
    go_wp2
    go_quiet (fail)
    go_wp2_with (go_at_call 100; with_reducible refine (abugidaref02_Reader_fail.calls g s (i : Int) false s (i : Int) true w0 _ (HR.out.drewN _).a (HR.out.drewN _).d rfl).mono ?_; rintro e wy ⟨rfl, hiy, hby, hky⟩)
    go_ret
    exact ⟨rfl, hiy, hby, ((HR.out.drewN _).step hiy hby hky).2.2⟩
theorem RJ.set {w0 w W : World} {g : Nat} {s : ByteArray} {i : Int} {b : Bool} (h : RJ w0 w g s i b W) (j : Int) : RJ w0 w g s j b (W.setCell ⟨g, 1, none⟩ (.int .i64 j)) :=
 ⟨IsS111.set_1 h.1 j, h.2.1.setCell h.1.ge _, h.2.2.set_ 1 _⟩
theorem RJ.grow {w0 w W W' : World} {g : Nat} {s : ByteArray} {i : Int} {b : Bool} (h : RJ w0 w g s i b W) (hw : w0.heap.size ≤ w.heap.size) (hb : Below W.heap.size W W') : RJ w0 w g s i b W' :=
 ⟨h.1.below hb, h.2.1.trans (hb.mono h.2.1.size), Nat.le_trans h.2.2.1 hb.size, fun i hi hgi hr => (hb.block i (Nat.lt_of_lt_of_le hi h.2.2.1)).trans (h.2.2.2 i hi hgi hr)⟩
theorem u64_range (x : Int) : 0 ≤ IntKind.u64.wrap x ∧ IntKind.u64.wrap x < 18446744073709551616 := by
 simp [IntKind.wrap, IntKind.bits, IntKind.signed]
 omega
theorem codeAt_range (s : ByteArray) (i : Nat) : ∀ (m : Nat) (c : Int), 0 ≤ c ∧ c < 18446744073709551616 → 0 ≤ codeAt s i m c ∧ codeAt s i m c < 18446744073709551616
 | 0, c, h => h
 | m + 1, c, _ => codeAt_range s i m _ (u64_range _)
theorem zero_facts (cc : Int) (hr : 0 ≤ cc ∧ cc < 18446744073709551616) (i n sz : Nat) (h2 : n < sz - i) (hs : sz ≤ 1152921504606846976) :
 ∃ Q j1 j2 : Int, Q = cc / 2 ∧ j2 = ((i + n + 1 : Nat) : Int) ∧ cc.tdiv 2 = Q ∧ IntKind.i64.wrap Q = Q ∧ wrap64 Q = Q ∧ IntKind.u64.wrap Q = Q ∧
   IntKind.i64.wrap ((i : Int) + (n : Int)) = j1 ∧ wrap64 ((i : Int) + (n : Int)) = j1 ∧ IntKind.i64.wrap (j1 + 1) = j2 ∧ wrap64 (j1 + 1) = j2 ∧
   ((i : Int) ≤ j2) = True ∧ (j2 ≤ (sz : Int)) = True ∧ (0 ≤ (i : Int)) = True ∧ (0 ≤ j2) = True ∧ j2.toNat = i + n + 1 := by
 refine ⟨cc / 2, ((i + n : Nat) : Int), ((i + n + 1 : Nat) : Int), rfl, rfl, ?_, ?_, ?_, ?_, ?_, ?_, ?_, ?_, eq_true ?_, eq_true ?_, eq_true ?_, eq_true ?_, ?_⟩
 · rw [Int.tdiv_eq_ediv_of_nonneg hr.1]
 · rw [IntKind.wrap_i64]; omega
 · unfold wrap64; omega
 · simp [IntKind.wrap, IntKind.bits, IntKind.signed]; omega
 · rw [IntKind.wrap_i64]; omega
 · unfold wrap64; omega
 · rw [IntKind.wrap_i64]; omega
 · unfold wrap64; omega
 · omega
 · omega
 · omega
 · omega
 · omega
theorem odd_facts (cc : Int) (hr : 0 ≤ cc ∧ cc < 18446744073709551616) (Q : Int) (hQ : Q = cc / 2) : wrap64 (-Q) = -Q ∧ wrap64 (-Q - 1) = -Q - 1 := by
 constructor <;> unfold wrap64 <;> omega
theorem bt_nonneg (s : ByteArray) (j : Int) : 0 ≤ bt s j := by
 unfold bt
 split <;> omega
theorem lt_aux {i m n sz : Nat} (h : m + 1 ≤ n + 1) (h2 : n < sz - i) : ((i + m : Nat) : Int) < (sz : Int) := by omega
theorem nn_aux {j : Int} {n : Nat} (h : j = (n : Int)) : 0 ≤ j := by omega
def outF (C : Int) : Int := if C % 2 = 1 then -(C / 2) - 1 else C / 2
set_option maxRecDepth 100000 in
set_option maxHeartbeats 4000000 in
theorem ref_good (k g : Nat) (s : ByteArray) (i : Nat) (hi : i ≤ s.size) (hs : s.size ≤ 1152921504606846976) (w0 w : World) (hI : IsS111 w0 w g s i false) (hB : Below w0.heap.size w0 w)
 (C : Int) (hgood : cntF s i 10 0 < 10 ∧ cntF s i 10 0 < s.size - i) (hC : codeAt s i (cntF s i 10 0 + 1) 0 = C) (e : ByteArray) (he : abugidaref02_Int.f k (outF C) = some e) (r i2 : Int) (b2 : Bool) (hres : (if e.toList = (s.extract i (i + cntF s i 10 0 + 1)).toList then (outF C, ((i + cntF s i 10 0 + 1 : Nat) : Int), false) else (0, (i : Int), true)) = (r, i2, b2)) :
 Calls Try.prog 67 #[.pointer (some ⟨g, 0, none⟩)] w fun x w' => x = .returned (.int .i64 r) ∧ RJ w0 w g s i2 b2 w' := by
 have HL := Lib.hid (Left_ref s i hi hs)
 have HI := Lib.hid hI
 have HGOOD := Lib.hid hgood
 have HCC := Lib.hid hC
 have HE := Lib.hid he
 have HRES := Lib.hid hres
 have HR0 := Lib.hid (show 0 ≤ C ∧ C < 18446744073709551616 by rw [← hC]; exact codeAt_range s i _ 0 (by omega))
 clear hI hgood hC he hres
 go_enter Try.func67, Try.ntmps67
 go_wp2
 go_loopw [3] (fun v wr => ∃ n : Nat, n ≤ 10 ∧ v = .int .i64 n ∧ RJ w0 w g s i false wr ∧ cntF s i (10 - n) n = cntF s i 10 0) (fun v _ => 10 - (intOf v).toNat)
 case atStart => exact ⟨0, by omega, rfl, ⟨HI.out, hB, KeepBut.refl _ _ _⟩, rfl⟩
 case round =>
  obtain ⟨n, hn, rfl, hR, hc⟩ := hrel
  have HR := Lib.hid hR
  have HC := Lib.hid hc
  clear hR hc
  by_cases h1 : n < 10
  · have e1 : decide ((n : Int) < 10) = true := decide_eq_true (by omega)
    have e1' : ((n : Int) == 10) = false := beq_eq_false_iff_ne.mpr (by omega)
    by_cases h2 : n < s.size - i
    · have e2 : decide ((n : Int) < ((s.size - i : Nat) : Int)) = true := decide_eq_true (by omega)
      obtain ⟨jj, hjj⟩ : ∃ jj : Int, jj = ((i + n : Nat) : Int) := ⟨_, rfl⟩
      have e3 : IntKind.i64.wrap ((i : Int) + (n : Int)) = jj := by rw [hjj, IntKind.wrap_i64]; omega
      have e3' : wrap64 ((i : Int) + (n : Int)) = jj := by rw [hjj]; unfold wrap64; omega
      have p18 : (0 ≤ jj) = True := eq_true (by omega)
      have q18 : (jj < (s.size : Int)) = True := eq_true (by omega)
      have hx18 : ∀ (h : jj.toNat < s.size), ((s[jj.toNat]'h).toNat : Int) = bt s jj := fun h => by unfold bt; rw [dif_pos h]
      by_cases h3 : 128 ≤ bt s jj
      · have e4 : decide (128 ≤ bt s jj) = true := decide_eq_true h3
        have hnext : cntF s i (10 - (n + 1)) (n + 1) = cntF s i 10 0 := by
         have := HC.out
         rw [show 10 - n = (10 - (n + 1)) + 1 by omega] at this
         rw [← this]
         conv => rhs; unfold cntF
         rw [if_pos ⟨h2, by rw [← hjj]; exact h3⟩]
        have HJ := Lib.hid hjj
        have HN := Lib.hid hnext
        clear hjj hnext h3
        go_wp2
        have q0 := cellS111_0 HR.out.a.1
        have q1 := cellS111_1 HR.out.a.1
        go_quiet ((go_at_call 69; exact Calls.quiet_of (Left_q g s i _ hi hs HR.out.a.1)))
        go_wp2
        go_roundw
        case rel => exact ⟨n + 1, by omega, by go_num, HR.out.drewN _, HN.out⟩
        case measure => simp [intOf]; omega
      · have h6 : cntF s i (10 - (n + 1) + 1) n = n := by unfold cntF; rw [if_neg (fun h => h3 (by rw [hjj]; exact h.2))]
        have h7 : n = cntF s i 10 0 := by have := HC.out; rw [show 10 - n = (10 - (n + 1)) + 1 by omega, h6] at this; exact this
        have e4 : decide (128 ≤ bt s jj) = false := decide_eq_false h3
        have e2' : decide (((s.size - i : Nat) : Int) ≤ (n : Int)) = false := decide_eq_false (by omega)
        have HCN : Go.RowKit.Hid (codeAt s i (n + 1) 0 = C) := Lib.hid (by rw [h7]; exact HCC.out)
        have H7 := Lib.hid h7
        clear hjj h3 h6 h7
        have q0 := cellS111_0 HR.out.a.1
        have q1 := cellS111_1 HR.out.a.1
        go_wp2
        go_quiet ((go_at_call 69; exact Calls.quiet_of (Left_q g s i _ hi hs HR.out.a.1)))
        go_wp2_with (go_at_call 69; refine (Left_q g s i _ hi hs (HR.out.drewN _).a.1).mono ?_; rintro e wx ⟨rfl, mx, rfl⟩)
        clear q0 q1
        go_loopw [4, 5] (fun c v wr2 => ∃ (m : Nat) (cc : Int), m ≤ n + 1 ∧ c = .int .u64 cc ∧ v = .int .i64 ((m : Int) - 1) ∧ RJ w0 w g s i false wr2 ∧ codeAt s i m cc = C) (fun _ v _ => (intOf v + 1).toNat)
        case atStart => exact ⟨n + 1, 0, by omega, rfl, by simp, by first | exact (HR.out.drewN _) | exact (HR.out.drewN _).drewN _, HCN.out⟩
        case round =>
         obtain ⟨m, cc, hm, rfl, rfl, hR2, hc2⟩ := hrel
         have HR2 := Lib.hid hR2
         clear hR2
         cases m with
         | zero =>
           have hcC : cc = C := hc2
           subst hcC
           clear hc2 e3 e3' p18 q18 hx18 e4 e2 e2'
           have q0 := cellS111_0 HR2.out.a.1
           have q1 := cellS111_1 HR2.out.a.1
           have hr := HR0.out
           obtain ⟨Q, j1, j2, hQ, hj2, f1, f2, f2', f2u, g1, g1', g2, g2', g3, g4, g5, g6, g7⟩ := zero_facts cc hr i n s.size h2 hs
           obtain ⟨f3, f4'⟩ := odd_facts cc hr Q hQ
           by_cases hodd : cc.tmod 2 = 1
           · have hb : (cc.tmod 2 == 1) = true := beq_iff_eq.mpr hodd
             obtain ⟨o, ho⟩ : ∃ o, o = outF cc := ⟨_, rfl⟩
             have ho2 : o = -Q - 1 := by rw [ho]; unfold outF; rw [if_pos (by rw [← Int.tmod_eq_emod_of_nonneg hr.1]; exact hodd), hQ]
             have f4 := f4'.trans ho2.symm
             clear f4'
             have HO := Lib.hid ho
             have HE' : Go.RowKit.Hid (abugidaref02_Int.f k o = some e) := Lib.hid (by rw [ho]; exact HE.out)
             have hgl : (⟨g, 0, none⟩ : Addr).block < wr.heap.size := HR2.out.a.lt
             have HJ2 := Lib.hid hj2
             clear ho ho2 hj2 hQ hr
             have hwr : Go.RowKit.Hid (RJ w0 w g s (i : Int) false wr.drew) := Lib.hid ⟨HR2.out.1.drew, below_drew1 HR2.out.2.1, HR2.out.2.2⟩
             go_wp2
             refine start_ (n := 19) (S := fun w' => w'.cell? ⟨g, 0, none⟩ = some (.string s) ∧ w'.cell? ⟨g, 1, none⟩ = some (.int .i64 (i : Int))) (ds := []) #[false, false, false, false, false, false, false, false, false, false, false, false, false, false, false, false, false, false, false] (by kernel_rfl) rfl rfl ⟨q0, q1⟩ (fun hHeld => ?_)
             refine pA 0 (some 71) rfl rfl zab0 zab1 ?_
             refine pA 2 (some 73) rfl rfl zab0 zab1 ?_
             refine pA 3 (some 74) rfl rfl zab0 zab1 ?_
             refine pA 4 (some 75) rfl rfl zab0 zab1 ?_
             refine pA 6 (some 77) rfl rfl zab0 zab1 ?_
             refine pA 7 (some 78) rfl rfl zab0 zab1 ?_
             refine pA 8 (some 79) rfl rfl zab0 zab1 ?_
             refine pA 10 (some 81) rfl rfl zab0 zab1 ?_
             refine pA 11 (some 82) rfl rfl zab0 zab1 ?_
             refine pA 12 (some 83) rfl rfl zab0 zab1 ?_
             refine pA 14 (some 85) rfl rfl zab0 zab1 ?_
             refine tA 5 (some 76) rfl rfl zab2 hHeld zab1 ?_
             refine tA 9 (some 80) rfl rfl zab2 hHeld zab1 ?_
             refine tA 13 (some 84) rfl rfl zab2 hHeld zab1 ?_
             refine pA 15 (some 86) rfl rfl zab0 zab1 ?_
             refine pA 16 (some 87) rfl rfl zab0 zab1 ?_
             refine pA 17 (some 88) rfl rfl zab0 zab1 ?_
             refine oA 1 (some 72) rfl rfl (fun K hK => ?_)
             refine goes_ Try.func53 (by kernel_rfl) rfl #[.int .i64 o] (by rfl) rfl rfl (by simp only [List.map_toArray, List.map_cons, List.map_nil]; rfl) ?_
             with_reducible refine (abugidaref02_Int.calls k o e _ HE'.out).mono ?_
             rintro x wx ⟨rfl, hbx⟩
             refine ⟨_, rfl, ?_⟩
             have HBX := Lib.hid hbx
             clear hbx
             refine hK.out _ _ ⟨(HBX.out.cell hgl).trans q0, (HBX.out.cell hgl).trans q1⟩ (fun hHeld => norm_ (by show Act.put _ (some _) _ = _; simp only [Act.put, nS]; rfl) ?_)
             clear hK K
             refine pA 18 (some 89) rfl rfl zab0 zab1 ?_
             refine done_ (by kernel_rfl) ?_
             have HRx := Lib.hid (hwr.out.grow hB.size HBX.out)
             by_cases he : e.toList = (s.extract i (i + n + 1)).toList
             · have hbq : (e.toList == (s.extract i (i + n + 1)).toList) = true := beq_iff_eq.mpr he
               have hbq2 : (!(e.toList == (s.extract i (i + n + 1)).toList)) = false := by rw [hbq]; rfl
               have qf : wx.frozen? ⟨g, 1, none⟩ = false := by simp [World.frozen?, HRx.out.a.1]
               have HEQ := Lib.hid he
               clear he
               simp only [hbq2]
               have q0 := cellS111_0 HRx.out.a.1
               have q1 := cellS111_1 HRx.out.a.1
               go_wp2
               go_ret
               have hr := HRES.out
               rw [← H7.out, if_pos HEQ.out, ← HO.out, ← HJ2.out] at hr
               injection hr with h1 h2
               injection h2 with h2 h3
               subst h1 h2 h3
               exact ⟨rfl, HRx.out.set j2⟩
             · have hbq : (e.toList == (s.extract i (i + n + 1)).toList) = false := beq_eq_false_iff_ne.mpr he
               have hbq2 : (!(e.toList == (s.extract i (i + n + 1)).toList)) = true := by rw [hbq]; rfl
               have HEQ := Lib.hid he
               clear he
               simp only [hbq2]
               go_wp2_with (go_at_call 100; with_reducible refine (abugidaref02_Reader_fail.calls g s (i : Int) false s (i : Int) true w0 _ HRx.out.a HRx.out.d rfl).mono ?_; rintro x wy ⟨rfl, hiy, hby, hky⟩)
               go_ret
               have hr := HRES.out
               rw [← H7.out, if_neg HEQ.out] at hr
               injection hr with h1 h2
               injection h2 with h2 h3
               subst h1 h2 h3
               exact ⟨rfl, HRx.out.step hiy hby hky⟩
           · have hb : (cc.tmod 2 == 1) = false := beq_eq_false_iff_ne.mpr hodd
             obtain ⟨o, ho⟩ : ∃ o, o = outF cc := ⟨_, rfl⟩
             have ho2 : o = Q := by rw [ho]; unfold outF; rw [if_neg (by rw [← Int.tmod_eq_emod_of_nonneg hr.1]; exact hodd), hQ]
             subst ho2
             have HO := Lib.hid ho
             have HE' : Go.RowKit.Hid (abugidaref02_Int.f k o = some e) := Lib.hid (by rw [ho]; exact HE.out)
             have hgl : (⟨g, 0, none⟩ : Addr).block < wr.heap.size := HR2.out.a.lt
             have HJ2 := Lib.hid hj2
             clear ho hj2 hQ hr
             have hwr : Go.RowKit.Hid (RJ w0 w g s (i : Int) false wr.drew) := Lib.hid ⟨HR2.out.1.drew, below_drew1 HR2.out.2.1, HR2.out.2.2⟩
             go_wp2
             refine start_ (n := 19) (S := fun w' => w'.cell? ⟨g, 0, none⟩ = some (.string s) ∧ w'.cell? ⟨g, 1, none⟩ = some (.int .i64 (i : Int))) (ds := []) #[false, false, false, false, false, false, false, false, false, false, false, false, false, false, false, false, false, false, false] (by kernel_rfl) rfl rfl ⟨q0, q1⟩ (fun hHeld => ?_)
             refine pA 0 (some 71) rfl rfl zab0 zab1 ?_
             refine pA 2 (some 73) rfl rfl zab0 zab1 ?_
             refine pA 3 (some 74) rfl rfl zab0 zab1 ?_
             refine pA 4 (some 75) rfl rfl zab0 zab1 ?_
             refine pA 6 (some 77) rfl rfl zab0 zab1 ?_
             refine pA 7 (some 78) rfl rfl zab0 zab1 ?_
             refine pA 8 (some 79) rfl rfl zab0 zab1 ?_
             refine pA 10 (some 81) rfl rfl zab0 zab1 ?_
             refine pA 11 (some 82) rfl rfl zab0 zab1 ?_
             refine pA 12 (some 83) rfl rfl zab0 zab1 ?_
             refine pA 14 (some 85) rfl rfl zab0 zab1 ?_
             refine tA 5 (some 76) rfl rfl zab2 hHeld zab1 ?_
             refine tA 9 (some 80) rfl rfl zab2 hHeld zab1 ?_
             refine tA 13 (some 84) rfl rfl zab2 hHeld zab1 ?_
             refine pA 15 (some 86) rfl rfl zab0 zab1 ?_
             refine pA 16 (some 87) rfl rfl zab0 zab1 ?_
             refine pA 17 (some 88) rfl rfl zab0 zab1 ?_
             refine oA 1 (some 72) rfl rfl (fun K hK => ?_)
             refine goes_ Try.func53 (by kernel_rfl) rfl #[.int .i64 o] (by rfl) rfl rfl (by simp only [List.map_toArray, List.map_cons, List.map_nil]; rfl) ?_
             with_reducible refine (abugidaref02_Int.calls k o e _ HE'.out).mono ?_
             rintro x wx ⟨rfl, hbx⟩
             refine ⟨_, rfl, ?_⟩
             have HBX := Lib.hid hbx
             clear hbx
             refine hK.out _ _ ⟨(HBX.out.cell hgl).trans q0, (HBX.out.cell hgl).trans q1⟩ (fun hHeld => norm_ (by show Act.put _ (some _) _ = _; simp only [Act.put, nS]; rfl) ?_)
             clear hK K
             refine pA 18 (some 89) rfl rfl zab0 zab1 ?_
             refine done_ (by kernel_rfl) ?_
             have HRx := Lib.hid (hwr.out.grow hB.size HBX.out)
             by_cases he : e.toList = (s.extract i (i + n + 1)).toList
             · have hbq : (e.toList == (s.extract i (i + n + 1)).toList) = true := beq_iff_eq.mpr he
               have hbq2 : (!(e.toList == (s.extract i (i + n + 1)).toList)) = false := by rw [hbq]; rfl
               have qf : wx.frozen? ⟨g, 1, none⟩ = false := by simp [World.frozen?, HRx.out.a.1]
               have HEQ := Lib.hid he
               clear he
               simp only [hbq2]
               have q0 := cellS111_0 HRx.out.a.1
               have q1 := cellS111_1 HRx.out.a.1
               go_wp2
               go_ret
               have hr := HRES.out
               rw [← H7.out, if_pos HEQ.out, ← HO.out, ← HJ2.out] at hr
               injection hr with h1 h2
               injection h2 with h2 h3
               subst h1 h2 h3
               exact ⟨rfl, HRx.out.set j2⟩
             · have hbq : (e.toList == (s.extract i (i + n + 1)).toList) = false := beq_eq_false_iff_ne.mpr he
               have hbq2 : (!(e.toList == (s.extract i (i + n + 1)).toList)) = true := by rw [hbq]; rfl
               have HEQ := Lib.hid he
               clear he
               simp only [hbq2]
               go_wp2_with (go_at_call 100; with_reducible refine (abugidaref02_Reader_fail.calls g s (i : Int) false s (i : Int) true w0 _ HRx.out.a HRx.out.d rfl).mono ?_; rintro x wy ⟨rfl, hiy, hby, hky⟩)
               go_ret
               have hr := HRES.out
               rw [← H7.out, if_neg HEQ.out] at hr
               injection hr with h1 h2
               injection h2 with h2 h3
               subst h1 h2 h3
               exact ⟨rfl, HRx.out.step hiy hby hky⟩
         | succ m =>
           obtain ⟨j2, hj2⟩ : ∃ j2 : Int, j2 = ((i + m : Nat) : Int) := ⟨_, rfl⟩
           have f0 : ((m + 1 : Nat) : Int) - 1 = (m : Int) := by omega
           rw [f0]
           have f1 : decide (0 ≤ (m : Int)) = true := decide_eq_true (by omega)
           have f3 : IntKind.i64.wrap ((i : Int) + (m : Int)) = j2 := by rw [hj2, IntKind.wrap_i64]; omega
           have f3' : wrap64 ((i : Int) + (m : Int)) = j2 := by rw [hj2]; unfold wrap64; omega
           have f4 : (0 ≤ j2) = True := eq_true (nn_aux hj2)
           have f5 : (j2 < (s.size : Int)) = True := eq_true (by rw [hj2]; exact lt_aux hm h2)
           have fx : ∀ (h : j2.toNat < s.size), ((s[j2.toNat]'h).toNat : Int) = bt s j2 := fun h => by unfold bt; rw [dif_pos h]
           have HC2 := Lib.hid hc2
           have HJ2 := Lib.hid hj2
           clear hc2 hj2 f0
           have q0 := cellS111_0 HR2.out.a.1
           have q1 := cellS111_1 HR2.out.a.1
           go_wp2
           go_quiet (fail)
           go_wp2
           go_roundw
           case rel =>
            clear f1 f3 f3' f4 f5 fx e3 e3' p18 q18 hx18 e1 e1' e2 e2' e4
            refine ⟨m, _, by omega, rfl, rfl, HR2.out.drewN _, ?_⟩
            have hc3 := HC2.out
            unfold codeAt at hc3
            rw [← HJ2.out] at hc3
            rw [Int.tmod_eq_emod_of_nonneg (bt_nonneg s j2)]
            exact hc3
           case measure => simp [intOf]
    · have := HC.out
      rw [show 10 - n = (10 - (n + 1)) + 1 by omega] at this
      have h6 : cntF s i (10 - (n + 1) + 1) n = n := by unfold cntF; rw [if_neg (fun h => h2 h.1)]
      rw [h6] at this
      have hg := HGOOD.out
      omega
  · have := HC.out
    have hg := HGOOD.out
    rw [show 10 - n = 0 by omega] at this
    have h6 : cntF s i 0 n = n := rfl
    rw [h6] at this
    omega
theorem Left_qb (g : Nat) (s : ByteArray) (i : Int) (w : World) (h : w.heap[g]? = some (.cells #[.string s, .int .i64 i, .bool true] 111 (0, 0))) :
 Calls Try.prog 69 #[.pointer (some ⟨g, 0, none⟩)] w fun e w' => e = .returned (.int .i64 0) ∧ ∃ m, w' = w.drewN m := by
 have HH := Lib.hid h
 clear h
 go_enter Try.func69, Try.ntmps69
 go_wp2_with (go_at_call 99; refine (Bad_q g s i true _ HH.out).mono ?_; rintro e w1 ⟨rfl, m1, rfl⟩)
 go_ret
 exact ⟨rfl, _, rfl⟩
set_option maxRecDepth 100000 in
set_option maxHeartbeats 4000000 in
theorem ref_bad (g : Nat) (s : ByteArray) (i : Int) (w0 w : World) (hI : IsS111 w0 w g s i true) (hB : Below w0.heap.size w0 w) :
 Calls Try.prog 67 #[.pointer (some ⟨g, 0, none⟩)] w fun x w' => x = .returned (.int .i64 0) ∧ RJ w0 w g s i true w' := by
 have HI := Lib.hid (show RJ w0 w g s i true w from ⟨hI, hB, KeepBut.refl _ _ _⟩)
 clear hI
 go_enter Try.func67, Try.ntmps67
 go_wp2
 go_loopw [3] (fun v wr => v = .int .i64 0 ∧ RJ w0 w g s i true wr) (fun v _ => 10 - (intOf v).toNat)
 case atStart => exact ⟨rfl, HI.out⟩
 case round =>
  obtain ⟨rfl, hR⟩ := hrel
  have HR := Lib.hid hR
  clear hR
  have q0 := cellS111_0 HR.out.a.1
  have q1 := cellS111_1 HR.out.a.1
  go_wp2
  go_quiet ((go_at_call 69; exact Calls.quiet_of (Left_qb g s i _ HR.out.a.1)))
  go_wp2_with (first
   | (go_at_call 69; refine (Left_qb g s i _ (HR.out.drewN _).a.1).mono ?_; rintro e wx ⟨rfl, mx, rfl⟩)
   | (go_at_call 100; with_reducible refine (abugidaref02_Reader_fail.calls g s i true s i true w0 _ (HR.out.drewN _).a (HR.out.drewN _).d rfl).mono ?_; rintro e wy ⟨rfl, hiy, hby, hky⟩))
  go_ret
  exact ⟨rfl, (HR.out.drewN _).step hiy hby hky⟩
def abugidaref02_Reader_Int.f (k : Nat) (s : ByteArray) (i : Int) (b : Bool) : Option (Int × ByteArray × Int × Bool) :=
 if b = true then some (0, s, i, true)
 else if 0 ≤ i ∧ i ≤ (s.size : Int) ∧ s.size ≤ 1152921504606846976 then
  if cntF s i.toNat 10 0 = 10 ∨ s.size - i.toNat ≤ cntF s i.toNat 10 0 then some (0, s, i, true)
  else (abugidaref02_Int.f k (outF (codeAt s i.toNat (cntF s i.toNat 10 0 + 1) 0))).bind fun e =>
   if e.toList = (s.extract i.toNat (i.toNat + cntF s i.toNat 10 0 + 1)).toList then some (outF (codeAt s i.toNat (cntF s i.toNat 10 0 + 1) 0), s, ((i.toNat + cntF s i.toNat 10 0 + 1 : Nat) : Int), false) else some (0, s, i, true)
 else none
theorem cntF_le (s : ByteArray) (i : Nat) : ∀ f n, n ≤ cntF s i f n ∧ cntF s i f n ≤ n + f
 | 0, n => ⟨Nat.le_refl _, Nat.le_refl _⟩
 | f + 1, n => by
   have := cntF_le s i f (n + 1)
   unfold cntF
   split <;> omega
theorem abugidaref02_Reader_Int.calls (k : Nat) (g : Nat) (s0_0 : ByteArray) (s0_1 : Int) (s0_2 : Bool) (r1 : Int) (r2 : ByteArray) (r3 : Int) (r4 : Bool) (w0 w : World) (hI : IsS111 w0 w g s0_0 s0_1 s0_2) (hB : Below w0.heap.size w0 w) (h : abugidaref02_Reader_Int.f k s0_0 s0_1 s0_2 = some (r1, r2, r3, r4)) :
 Calls Try.prog 67 #[.pointer (some ⟨g, 0, none⟩)] w fun e w' => e = .returned (.int .i64 r1) ∧ IsS111 w0 w' g r2 r3 r4 ∧ Below w0.heap.size w0 w' ∧ KeepBut w w' g none := by
 unfold abugidaref02_Reader_Int.f at h
 by_cases c1 : s0_2 = true
 · rw [if_pos c1] at h
   subst c1
   injection h with h
   injection h with h1 h
   injection h with h2 h
   injection h with h3 h4
   subst h1 h2 h3 h4
   refine (ref_bad g s0_0 s0_1 w0 w hI hB).mono ?_
   rintro e w' ⟨rfl, hR⟩
   exact ⟨rfl, hR⟩
 · rw [if_neg c1] at h
   obtain rfl : s0_2 = false := by cases s0_2 <;> simp_all
   by_cases c2 : 0 ≤ s0_1 ∧ s0_1 ≤ (s0_0.size : Int) ∧ s0_0.size ≤ 1152921504606846976
   · rw [if_pos c2] at h
     obtain ⟨i, rfl⟩ : ∃ i : Nat, s0_1 = (i : Int) := ⟨s0_1.toNat, by omega⟩
     simp only [Int.toNat_natCast] at h
     have hi : i ≤ s0_0.size := by omega
     by_cases c3 : cntF s0_0 i 10 0 = 10 ∨ s0_0.size - i ≤ cntF s0_0 i 10 0
     · rw [if_pos c3] at h
       injection h with h
       injection h with h1 h
       injection h with h2 h
       injection h with h3 h4
       subst h1 h2 h3 h4
       exact ref_walk k g s0_0 i hi c2.2.2 w0 w hI hB c3
     · rw [if_neg c3] at h
       obtain ⟨e, he, h⟩ := Option.bind_eq_some_iff.1 h
       have hc := cntF_le s0_0 i 10 0
       obtain ⟨⟨q1, q2, q3⟩, hq⟩ : ∃ q, (if e.toList = (s0_0.extract i (i + cntF s0_0 i 10 0 + 1)).toList then (outF (codeAt s0_0 i (cntF s0_0 i 10 0 + 1) 0), ((i + cntF s0_0 i 10 0 + 1 : Nat) : Int), false) else (0, (i : Int), true)) = q := ⟨_, rfl⟩
       refine (ref_good k g s0_0 i hi c2.2.2 w0 w hI hB _ (by omega) rfl e he q1 q2 q3 hq).mono ?_
       rintro x w' ⟨rfl, hR⟩
       have : some (q1, s0_0, q2, q3) = some (r1, r2, r3, r4) := by
        rw [← h]
        split at hq
        · rename_i hc2
          injection hq with h1 h2
          injection h2 with h2 h3
          subst h1 h2 h3
          exact (if_pos hc2).symm
        · rename_i hc2
          injection hq with h1 h2
          injection h2 with h2 h3
          subst h1 h2 h3
          exact (if_neg hc2).symm
       injection this with this
       injection this with h1 h
       injection h with h2 h
       injection h with h3 h4
       subst h1 h2 h3 h4
       exact ⟨rfl, hR⟩
   · rw [if_neg c2] at h; cases h
end Go.Proofs.Ythokkeljfdfppaa.Gw

