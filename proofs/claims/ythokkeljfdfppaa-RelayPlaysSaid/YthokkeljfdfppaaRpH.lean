/- Both relays' Take in one form. -/
import Derived.Test.YthokkeljfdfppaaRpF
set_option linter.unusedVariables false
set_option linter.unusedSimpArgs false
namespace Go.Proofs.Ythokkeljfdfppaa.Rl
open Go.RowKit Go.Proofs.YthokkeljfdfppaaW.PrintWords Go.Proofs.YthokkeljfdfppaaW.PrintLast Go.Proofs.YthokkeljfdfppaaW.PrintMore Go.Proofs.Ythokkeljfdfppaa.Pb Go.Proofs.Ythokkeljfdfppaa.Gw Go.Proofs.Ythokkeljfdfppaa.Pure
abbrev QT := List S55 ⊕ (ByteArray × Int × List S52)
def txB : QT → ByteArray
 | .inl l => ToldB l
 | .inr (f, v, ks) => AskB f v ks
def ansP (tw : Int) (q : QT) (L : List S55) : Option ByteArray :=
 if tw = 2 then (match q with
  | .inl _ => none
  | .inr (f, v, ks) => some (ToldB (askL f v ks L))) else none
def newP (most tw : Int) (q : QT) (L : List S55) : List S55 :=
 if tw = 2 then (match q with
  | .inl l => keepAll most L l
  | .inr _ => L) else L
def QOk : QT → Prop
 | .inl l => l.length ≤ 2 ∧ ∀ p ∈ l, MadeP p
 | .inr (f, v, ks) => f.size ≤ 20 ∧ I64 v ∧ ks.length ≤ 20 ∧ ∀ k ∈ ks, KOk k
def Answer (w : World) (lo : Nat) (A : Option Addr) (n : Nat) (a : Option ByteArray) : Prop :=
 (a = none ∧ A = none ∧ n = 0) ∨ ∃ gm t, a = some t ∧ A = some ⟨gm, 0, none⟩ ∧ n = 1 ∧ lo ≤ gm ∧ w.heap[gm]? = some (.cells #[.int .i64 2, .int .i64 1, .string t] 68 (0, 0))
theorem ref_tell_of {s : ByteArray} {r : TellR} (hs : s.size ≤ 9000) (h : Ev (fun k => relay_Tell.f k s) r) : Ev (fun k => abugidaref35_Tell.f k s) r := by
 obtain ⟨r', h1, h2, _⟩ := Tell_same s hs
 rw [Ev.unique h h1]
 exact h2
theorem ref_asked_of {s : ByteArray} {r : AskR} (hs : s.size ≤ 9000) (h : Ev (fun k => relay_Asked.f k s) r) : Ev (fun k => abugidaref35_Asked.f k s) r := by
 obtain ⟨r', h1, h2, _⟩ := Asked_same s hs
 rw [Ev.unique h h1]
 exact h2
theorem own_tell {l : List S55} (hl : l.length ≤ 2) (h : ∀ p ∈ l, MadeP p) : Ev (fun k => relay_Tell.f k (ToldB l)) (l, true) := Tell_ev l (by omega) (fun p hp => ⟨(made_pk (h p hp)).ok, (made_pk (h p hp)).few⟩)
theorem told_texts {l : List S55} (hl : l.length ≤ 2) (h : ∀ p ∈ l, MadeP p) : (ToldB l).size ≤ 4000 ∧ (TextsB (l.map EncB)).size ≤ 100000000 := by
 have h1 := told_small l (by omega) h
 refine ⟨h1, ?_⟩
 unfold ToldB at h1
 rw [ByteArray.size_append] at h1
 omega
theorem takeOwn {w : World} {gr br : Nat} {most : Int} {N : Nat} {L : List S55} (h : RS w gr br 2 most N L) (h0 : 0 < most) (hbig : most ≤ 1099511627776) (hN : N ≤ 900) (q : QT) (hq : QOk q) (tw : Int) :
 Calls Try.prog 33 #[.pointer (some ⟨gr, 0, none⟩), .agg #[.int .i64 1, .int .i64 tw, .string (txB q)]] w fun e w' => ∃ A n, e = .returned (.slice A n n) ∧ Answer w' w.heap.size A n (ansP tw q L) ∧ Only gr br w w' ∧ RS w' gr br 2 most (N + 2) (newP most tw q L) := by
 by_cases he : tw = 2
 · match q, hq with
   | .inl l, hq =>
     obtain ⟨h1, h2⟩ : l.length ≤ 2 ∧ ∀ p ∈ l, MadeP p := hq
     refine (Take_told h h0 hbig (ToldB l) l (own_tell h1 h2) (by omega) (fun p hp => made_pk (h2 p hp)) 1 tw he).mono ?_
     rintro e w' ⟨rfl, ho, hs⟩
     refine ⟨none, 0, rfl, .inl ⟨by unfold ansP; rw [if_pos he], rfl, rfl⟩, ho, ?_⟩
     unfold newP
     rw [if_pos he]
     exact hs.up (by omega)
   | .inr (f, v, ks), hq =>
     obtain ⟨h1, h2, h3, h4⟩ : f.size ≤ 20 ∧ I64 v ∧ ks.length ≤ 20 ∧ ∀ k ∈ ks, KOk k := hq
     have hz := ask_small f v ks h1 h2 h3 h4
     refine (Take_asked h h0 hbig (by omega) (AskB f v ks) f v ks (Asked_ev f v ks (by omega) h2 (by omega) h4) (by omega) (Tell_ask f v ks (by omega)) 1 tw he).mono ?_
     rintro e w' ⟨gm, rfl, hgm, hc, ho, hs⟩
     refine ⟨_, 1, rfl, .inr ⟨gm, _, by unfold ansP; rw [if_pos he], rfl, rfl, hgm, hc⟩, ho, ?_⟩
     unfold newP
     rw [if_pos he]
     exact hs.up (by omega)
 · refine (Take_other h h0 1 tw he (txB q)).mono ?_
   rintro e w' ⟨rfl, hb⟩
   refine ⟨none, 0, rfl, .inl ⟨by unfold ansP; rw [if_neg he], rfl, rfl⟩, Only.of_below hb, ?_⟩
   unfold newP
   rw [if_neg he]
   exact (h.below hb).up (by omega)
theorem takeRef {w : World} {g : Nat} {most : Int} {Q : Nat → Prop} {X : List Kp} (h : RefX w g 2 most Q X) (h0 : 0 < most) (hbig : most ≤ 1099511627776) (hX : X.length ≤ 900) (hQ : ∀ k, w.heap.size ≤ k → Q k) (hg : ∀ k, Q k → k ≠ g) (q : QT) (hq : QOk q) (tw : Int) :
 Calls Try.prog 34 #[.pointer (some ⟨g, 0, none⟩), .agg #[.int .i64 1, .int .i64 tw, .string (txB q)]] w fun e w' => ∃ A n X', e = .returned (.slice A n n) ∧ Answer w' w.heap.size A n (ansP tw q (X.map Kp.p)) ∧ X'.map Kp.p = newP most tw q (X.map Kp.p) ∧ RefX w' g 2 most Q X' ∧ Only g g w w' := by
 by_cases he : tw = 2
 · match q, hq with
   | .inl l, hq =>
     obtain ⟨h1, h2⟩ : l.length ≤ 2 ∧ ∀ p ∈ l, MadeP p := hq
     obtain ⟨h3, h4⟩ := told_texts h1 h2
     refine (refTake_told h h0 hbig hX hQ hg (ToldB l) l (ref_tell_of (by omega) (own_tell h1 h2)) noAsk (ref_asked_of (by omega) (Asked_told l h4)) (by omega) (fun p hp => made_pk (h2 p hp)) 1 tw he).mono ?_
     rintro e w' ⟨X', rfl, hm, hr, ho⟩
     exact ⟨none, 0, X', rfl, .inl ⟨by unfold ansP; rw [if_pos he], rfl, rfl⟩, by unfold newP; rw [if_pos he]; exact hm, hr, ho⟩
   | .inr (f, v, ks), hq =>
     obtain ⟨h1, h2, h3, h4⟩ : f.size ≤ 20 ∧ I64 v ∧ ks.length ≤ 20 ∧ ∀ k ∈ ks, KOk k := hq
     have hz := ask_small f v ks h1 h2 h3 h4
     refine (refTake_asked h h0 (by omega) (AskB f v ks) f v ks (ref_asked_of (by omega) (Asked_ev f v ks (by omega) h2 (by omega) h4)) (by omega) (ref_tell_of (by omega) (Tell_ask f v ks (by omega))) 1 tw he).mono ?_
     rintro e w' ⟨gm, rfl, hgm, hc, hb⟩
     exact ⟨_, 1, X, rfl, .inr ⟨gm, _, by unfold ansP; rw [if_pos he], rfl, rfl, hgm, hc⟩, by unfold newP; rw [if_pos he], h.below hb, Only.of_below hb⟩
 · refine (refTake_other h h0 1 tw he (txB q)).mono ?_
   rintro e w' ⟨rfl, hb⟩
   exact ⟨none, 0, X, rfl, .inl ⟨by unfold ansP; rw [if_neg he], rfl, rfl⟩, by unfold newP; rw [if_neg he], h.below hb, Only.of_below hb⟩
end Go.Proofs.Ythokkeljfdfppaa.Rl
