/- Several texts of this claim, one behind the other: RnI, RnD, RnK, RnE. -/
import Derived.Test.YthokkeljfdfppaaMgX
import Derived.Test.YthokkeljfdfppaaMgN
/- A relay that is asked stays as it is. -/
set_option linter.unusedVariables false
set_option linter.unusedSimpArgs false
namespace Go.Proofs.Ythokkeljfdfppaa.Rl
open Go.RowKit Go.Proofs.YthokkeljfdfppaaW.PrintWords Go.Proofs.YthokkeljfdfppaaW.PrintLast Go.Proofs.YthokkeljfdfppaaW.PrintMore Go.Proofs.Ythokkeljfdfppaa.Pb Go.Proofs.Ythokkeljfdfppaa.Gw Go.Proofs.Ythokkeljfdfppaa.Pure Go.WideMaps Go.WideElems
open Go.ChangeShapes Go.WideShapes Go.MapKept
open Go.RowKit Go.Proofs.YthokkeljfdfppaaW.PrintWords Go.Proofs.YthokkeljfdfppaaW.PrintLast Go.Proofs.YthokkeljfdfppaaW.PrintMore Go.Proofs.Ythokkeljfdfppaa.Pb Go.Proofs.Ythokkeljfdfppaa.Gw Go.Proofs.Ythokkeljfdfppaa.Pure
theorem ask_small (f : ByteArray) (v : Int) (ks : List S52) (hf : f.size ≤ 20) (hv : Pure.I64 v) (hl : ks.length ≤ 20) (h : ∀ k ∈ ks, KOk k) : (AskB f v ks).size ≤ 700 := by
 have h1 := join_size KeyB 30 ks (HeadB f v (ks.length : Nat)) (fun k hk => KeyB_size (h k hk))
 have h2 : (HeadB f v ((ks.length : Nat) : Int)).size ≤ 100 := by
  have a1 := TextB_size askW (by decide)
  have a2 := TextB_size f (by omega)
  have a3 := IntB_small v hv.1 hv.2
  have a4 := IntB_small ((ks.length : Nat) : Int) (by omega) (by omega)
  have b1 : askW.size = 3 := rfl
  unfold HeadB
  simp only [ByteArray.size_append]
  omega
 unfold AskB
 omega
theorem told_small (l : List S55) (hl : l.length ≤ 12) (h : ∀ p ∈ l, MadeP p) : (ToldB l).size ≤ 4000 := by
 have h1 := TextB_size toldW (by decide)
 have h2 : toldW.size = 4 := rfl
 have h3 := IntB_small (((l.map EncB).length : Nat) : Int) (by rw [List.length_map]; omega) (by rw [List.length_map]; omega)
 have h4 : (TextsB (l.map EncB)).size ≤ 3730 := by
  have hj := join_size TextB 310 (l.map EncB) (IntB (((l.map EncB).length : Nat) : Int)) (fun t ht => by
   obtain ⟨p, hp, rfl⟩ := List.mem_map.1 ht
   have a0 := (made_enc (h p hp)).2.1
   have a1 := TextB_size (EncB p) (by omega)
   omega)
  have hl2 : (l.map EncB).length = l.length := List.length_map ..
  show (join TextB (l.map EncB) (IntB (((l.map EncB).length : Nat) : Int))).size ≤ 3730
  omega
 unfold ToldB
 rw [ByteArray.size_append]
 omega
theorem refAsk_n (k : Nat) (f : ByteArray) (v : Int) (A : Option Addr) (c n : Nat) (keys : List S52) (r : ByteArray) (w : World) (hn : n = keys.length) (hC : Kd.C k52 w A n keys) (hc : n ≤ c) (h : abugidaref35_Ask.f k f v keys = some r) :
 Calls Try.prog 18 #[.string f, .int .i64 v, .slice A n c] w fun e w' => e = .returned (.string r) ∧ Below w.heap.size w w' := by
 subst hn
 exact abugidaref35_Ask.calls k f v A c keys r w hC hc h
theorem keepAll_made (bytes : Int) : ∀ (l L : List S55), (∀ p ∈ l, MadeP p) → (∀ p ∈ L, MadeP p) → ∀ p ∈ keepAll bytes L l, MadeP p
 | [], L, _, hL => hL
 | x :: l, L, hl, hL => keepAll_made bytes l (keepP bytes L x).2 (fun p hp => hl p (List.mem_cons_of_mem _ hp)) (fun p hp => by
   unfold keepP at hp
   split at hp
   · exact hL p hp
   · rcases List.mem_append.1 hp with hp | hp
     · exact hL p ((List.filter_sublist).mem ((fitP_sub _ _).mem hp))
     · rw [List.mem_singleton.1 hp]; exact hl x List.mem_cons_self)
where
 fitP_sub : ∀ (l : List S55) (room : Int), (fitP l room).Sublist l
  | [], _ => List.Sublist.refl _
  | x :: l, room => by
    unfold fitP
    split
    · exact (fitP_sub l room).cons x
    · exact List.Sublist.refl _
theorem fitP_sub (l : List S55) (room : Int) : (fitP l room).Sublist l := keepAll_made.fitP_sub l room
theorem eqN_iff (a b : S55) : eqN a b = true ↔ nmOf a = nmOf b := by
 obtain ⟨a0, a1, ⟨a2, a3, a4⟩, ⟨a5, a6, a7⟩, a8, a9, a10⟩ := a
 obtain ⟨b0, b1, ⟨b2, b3, b4⟩, ⟨b5, b6, b7⟩, b8, b9, b10⟩ := b
 unfold eqN nmOf
 simp only [Bool.and_eq_true, beq_iff_eq, eqK_iff, toList_eq, Nm.mk.injEq, S52.mk.injEq]
 constructor
 · rintro ⟨h1, h2, ⟨h3, h4, h5⟩, h6, h7, h8⟩
   exact ⟨h1, h2, h3, h4, h5, h6, h7, h8⟩
 · rintro ⟨h1, h2, h3, h4, h5, h6, h7, h8⟩
   exact ⟨h1, h2, ⟨h3, h4, h5⟩, h6, h7, h8⟩
end Go.Proofs.Ythokkeljfdfppaa.Rl

