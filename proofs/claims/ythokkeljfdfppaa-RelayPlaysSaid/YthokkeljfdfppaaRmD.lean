/- Sanity of the relay. -/
import Derived.Test.YthokkeljfdfppaaMgM
import Derived.Deep.Cut
import Derived.Deep.DeepCutAuto
set_option linter.unusedVariables false
set_option linter.unusedSimpArgs false
namespace Go.Proofs.Ythokkeljfdfppaa.Rl
open Go.RowKit Go.Proofs.YthokkeljfdfppaaW.PrintWords Go.Proofs.YthokkeljfdfppaaW.PrintLast Go.Proofs.YthokkeljfdfppaaW.PrintMore Go.Proofs.Ythokkeljfdfppaa.Pb Go.Proofs.Ythokkeljfdfppaa.Gw Go.Proofs.Ythokkeljfdfppaa.Pure
theorem zaz6 {p : Prop} (h : p := by rintro w' ⟨s0, s1, s2, s3, s4, s5, s6, s7, s8, s9, s10, s11⟩; go_simp; with_reducible rfl) : p := h
theorem zaz5 {p : Prop} (h : p := by rintro w' ⟨s0, s1, s2, s3, s4, s5, s6, s7, s8, s9, s10, s11, s12, s13, s14, s15, s16, s17, s18, s19, s20, s21⟩; go_simp; with_reducible rfl) : p := h
theorem zaz4 {p : Prop} (h : p := by rintro w' ⟨s0, s1, s2, s3, s4, s5, s6, s7, s8, s9, s10, s11, s12, s13, s14⟩; go_simp; with_reducible rfl) : p := h
theorem zaz3 {p : Prop} (h : p := by simp only [List.map_toArray, List.map_cons, List.map_nil]; rfl) : p := h
theorem zaz2 {p : Prop} (h : p := by show Act.put _ (some _) _ = _; simp only [Act.put, nS]; rfl) : p := h
theorem zaz1 {p : Prop} (h : p := by simp only [Act.put, nS]; rfl) : p := h
theorem zaz0 {p : Prop} (h : p := by intro w'; go_simp; with_reducible rfl) : p := h
theorem keep1 : keepP 1000 [] (sP 5 ⟨#[112]⟩) = (0, [(sP 5 ⟨#[112]⟩)]) := by
 have h := (sP_ok 5 (by decide) ⟨#[112]⟩ (by decide)).2.1
 unfold keepP
 rw [if_neg (by unfold szP; have : (sP 5 ⟨#[112]⟩) = sP ((5 : Nat) : Int) ⟨#[112]⟩ := rfl; rw [this]; omega)]
 rfl
theorem keep2 : keepP 1000 [(sP 5 ⟨#[112]⟩)] (sP 5 ⟨#[113]⟩) = (0, [(sP 5 ⟨#[113]⟩)]) := by
 have h := (sP_ok 5 (by decide) ⟨#[113]⟩ (by decide)).2.1
 unfold keepP
 rw [if_neg (by unfold szP; have : (sP 5 ⟨#[113]⟩) = sP ((5 : Nat) : Int) ⟨#[113]⟩ := rfl; rw [this]; omega)]
 rfl
theorem small_ge : 1 ≤ szP (sP 5 ⟨#[112]⟩) ∧ 1 ≤ szP (sP 6 ⟨#[112]⟩) ∧ szP (sP 5 ⟨#[112]⟩) ≤ 200 ∧ szP (sP 6 ⟨#[112]⟩) ≤ 200 := by
 have h := (sP_ok 5 (by decide) ⟨#[112]⟩ (by decide)).2
 have h2 := (sP_ok 6 (by decide) ⟨#[112]⟩ (by decide)).2
 have e : (sP 5 ⟨#[112]⟩) = sP ((5 : Nat) : Int) ⟨#[112]⟩ := rfl
 have e2 : (sP 6 ⟨#[112]⟩) = sP ((6 : Nat) : Int) ⟨#[112]⟩ := rfl
 unfold szP
 rw [e, e2]
 omega
theorem keep3 (b : Int) (hb : b = szP (sP 5 ⟨#[112]⟩) + szP (sP 6 ⟨#[112]⟩) - 1) : keepP b [] (sP 5 ⟨#[112]⟩) = (0, [(sP 5 ⟨#[112]⟩)]) := by
 have h := small_ge
 unfold keepP
 rw [if_neg (by omega)]
 rfl
theorem keep4 (b : Int) (hb : b = szP (sP 5 ⟨#[112]⟩) + szP (sP 6 ⟨#[112]⟩) - 1) : keepP b [(sP 5 ⟨#[112]⟩)] (sP 6 ⟨#[112]⟩) = (0, [(sP 6 ⟨#[112]⟩)]) := by
 have h := small_ge
 unfold keepP
 rw [if_neg (by omega)]
 have e : othersP (nmOf (sP 6 ⟨#[112]⟩)) [(sP 5 ⟨#[112]⟩)] = [(sP 5 ⟨#[112]⟩)] := rfl
 rw [e, fitP, if_pos (by show b - szP (sP 6 ⟨#[112]⟩) < szP (sP 5 ⟨#[112]⟩) + 0; omega)]
 rfl
theorem askL_p : askL fB 2 [K5] [(sP 5 ⟨#[112]⟩)] = [(sP 5 ⟨#[112]⟩)] := by
 unfold askL
 rw [List.filter_cons_of_pos (by decide +kernel)]
 rfl
theorem askL_q : askL fB 2 [K5] [(sP 5 ⟨#[113]⟩)] = [(sP 5 ⟨#[113]⟩)] := by
 unfold askL
 rw [List.filter_cons_of_pos (by decide +kernel)]
 rfl
theorem askL_1 : askL fB 1 [K5] [(sP 5 ⟨#[112]⟩)] = [] := by
 unfold askL
 rw [List.filter_cons_of_neg (by decide +kernel)]
 rfl
theorem pk_p : PK (sP 5 ⟨#[112]⟩) := (sP_ok 5 (by decide) ⟨#[112]⟩ (by decide)).1
theorem pk_q : PK (sP 5 ⟨#[113]⟩) := (sP_ok 5 (by decide) ⟨#[113]⟩ (by decide)).1
theorem pk_o : PK (sP 6 ⟨#[112]⟩) := (sP_ok 6 (by decide) ⟨#[112]⟩ (by decide)).1
theorem Only.bel {B : World} {g b : Nat} {w w1 : World} (h : Below B.heap.size B w) (ho : Only g b w w1) (hg : B.heap.size ≤ g) (hb : B.heap.size ≤ b) : Below B.heap.size B w1 := Only.below h ho hg hb h.size
set_option maxRecDepth 100000 in
theorem keep_s {w : World} {g b : Nat} {no bytes : Int} {N : Nat} {L L' : List S55} (n : Int) (body : ByteArray) (h : RS w g b no bytes N L) (h0 : 0 < bytes) (hbig : bytes ≤ 1099511627776) (hN : N ≤ 100000) (hp : PK (sP n body)) (hk : keepP bytes L (sP n body) = (0, L')) :
 Calls Try.prog 31 #[.pointer (some ⟨g, 0, none⟩), .agg #[.string ⟨#[102]⟩, .int .i64 2, .int .i64 2, .int .i64 n, .int .i64 0, .int .i64 0, .int .i64 0, .int .i64 0, .string body, .int .i64 0, .slice none 0 0]] w fun e w' => e = .returned (.int .i64 0) ∧ Only g b w w' ∧ RS w' g b no bytes (N + 1) L' := by
 have := keep_x h h0 hbig hN ⟨#[102]⟩ 2 2 n 0 0 0 0 body 0 [] hp none 0 (Kd.C_nil Kd.string _) (Nat.le_refl _)
 rw [show keepP bytes L (⟨⟨#[102]⟩, 2, ⟨2, n, 0⟩, ⟨0, 0, 0⟩, body, 0, []⟩ : S55) = (0, L') from hk] at this
 exact this
theorem eq68 (a b : Int) (s : ByteArray) (w : World) : (binOp .eql 68 (.agg #[.int .i64 a, .int .i64 b, .string s]) (.agg #[.int .i64 a, .int .i64 b, .string s])).run Try.prog w = .ok (.bool true) w := by
 have hu := Try.underlying68
 go_simp
theorem many1 {w : World} {g b : Nat} {no bytes : Int} {N : Nat} {x : S55} (h : RS w g b no bytes N [x]) : Calls Try.prog 35 #[.pointer (some ⟨g, 0, none⟩)] w fun e w' => e = .returned (.int .i64 1) ∧ Below w.heap.size w w' := Many_s h
theorem enc_s (n : Int) (body : ByteArray) (k : Nat) (h : patch_Encode.f k (sP n body).f0 (sP n body).f1 (sP n body).f2.f0 (sP n body).f2.f1 (sP n body).f2.f2 (sP n body).f3.f0 (sP n body).f3.f1 (sP n body).f3.f2 (sP n body).f4 (sP n body).f5 (sP n body).f6 = some (EncB (sP n body))) (w : World) : Calls Try.prog 37 #[.agg #[.string ⟨#[102]⟩, .int .i64 2, .int .i64 2, .int .i64 n, .int .i64 0, .int .i64 0, .int .i64 0, .int .i64 0, .string body, .int .i64 0, .slice none 0 0]] w fun e w' => e = .returned (.string (EncB (sP n body))) ∧ Below w.heap.size w w' :=
 patch_Encode.calls k _ _ _ _ _ _ _ _ _ _ none 0 [] _ w (Kd.C_nil Kd.string _) (Nat.le_refl _) h
theorem keepAll_q : keepAll 1000 [(sP 5 ⟨#[112]⟩)] [(sP 5 ⟨#[113]⟩)] = [(sP 5 ⟨#[113]⟩)] := by
 unfold keepAll
 simp only [List.foldl_cons, List.foldl_nil]
 rw [keep2]
theorem C_p (W : World) : Kd.C k55 (W.alloc (.cells #[.string ⟨#[102]⟩, .int .i64 2, .int .i64 2, .int .i64 5, .int .i64 0, .int .i64 0, .int .i64 0, .int .i64 0, .string ⟨#[112]⟩, .int .i64 0, .slice none 0 0] 55 (0, 0))) (some ⟨W.heap.size, 0, none⟩) 1 [(sP 5 ⟨#[112]⟩)] := C_pats W [(sP 5 ⟨#[112]⟩)] _ 1 rfl (fun x hx => by rw [List.mem_singleton.1 hx]; rfl) rfl (by decide)
theorem C_q (W : World) : Kd.C k55 (W.alloc (.cells #[.string ⟨#[102]⟩, .int .i64 2, .int .i64 2, .int .i64 5, .int .i64 0, .int .i64 0, .int .i64 0, .int .i64 0, .string ⟨#[113]⟩, .int .i64 0, .slice none 0 0] 55 (0, 0))) (some ⟨W.heap.size, 0, none⟩) 1 [(sP 5 ⟨#[113]⟩)] := C_pats W [(sP 5 ⟨#[113]⟩)] _ 1 rfl (fun x hx => by rw [List.mem_singleton.1 hx]; rfl) rfl (by decide)
theorem C_po (W : World) : Kd.C k55 (W.alloc (.cells #[.string ⟨#[102]⟩, .int .i64 2, .int .i64 2, .int .i64 5, .int .i64 0, .int .i64 0, .int .i64 0, .int .i64 0, .string ⟨#[112]⟩, .int .i64 0, .slice none 0 0, .string ⟨#[102]⟩, .int .i64 2, .int .i64 2, .int .i64 6, .int .i64 0, .int .i64 0, .int .i64 0, .int .i64 0, .string ⟨#[112]⟩, .int .i64 0, .slice none 0 0] 55 (0, 0))) (some ⟨W.heap.size, 0, none⟩) 2 [(sP 5 ⟨#[112]⟩), (sP 6 ⟨#[112]⟩)] := C_pats W [(sP 5 ⟨#[112]⟩), (sP 6 ⟨#[112]⟩)] _ 2 rfl (fun x hx => by
 simp only [List.mem_cons, List.not_mem_nil, or_false] at hx
 rcases hx with rfl | rfl <;> rfl) rfl (by decide)
theorem told_p (k : Nat) (t : ByteArray) (h : relay_Told.f k [(sP 5 ⟨#[112]⟩)] = some t) (W : World) : Calls Try.prog 21 #[.slice (some ⟨W.heap.size, 0, none⟩) 1 1] (W.alloc (.cells #[.string ⟨#[102]⟩, .int .i64 2, .int .i64 2, .int .i64 5, .int .i64 0, .int .i64 0, .int .i64 0, .int .i64 0, .string ⟨#[112]⟩, .int .i64 0, .slice none 0 0] 55 (0, 0))) fun e w' => e = .returned (.string t) ∧ Below (W.alloc (.cells #[.string ⟨#[102]⟩, .int .i64 2, .int .i64 2, .int .i64 5, .int .i64 0, .int .i64 0, .int .i64 0, .int .i64 0, .string ⟨#[112]⟩, .int .i64 0, .slice none 0 0] 55 (0, 0))).heap.size (W.alloc (.cells #[.string ⟨#[102]⟩, .int .i64 2, .int .i64 2, .int .i64 5, .int .i64 0, .int .i64 0, .int .i64 0, .int .i64 0, .string ⟨#[112]⟩, .int .i64 0, .slice none 0 0] 55 (0, 0))) w' := relay_Told.calls k _ 1 [(sP 5 ⟨#[112]⟩)] t _ (C_p W) (Nat.le_refl _) h
theorem told_q (k : Nat) (t : ByteArray) (h : relay_Told.f k [(sP 5 ⟨#[113]⟩)] = some t) (W : World) : Calls Try.prog 21 #[.slice (some ⟨W.heap.size, 0, none⟩) 1 1] (W.alloc (.cells #[.string ⟨#[102]⟩, .int .i64 2, .int .i64 2, .int .i64 5, .int .i64 0, .int .i64 0, .int .i64 0, .int .i64 0, .string ⟨#[113]⟩, .int .i64 0, .slice none 0 0] 55 (0, 0))) fun e w' => e = .returned (.string t) ∧ Below (W.alloc (.cells #[.string ⟨#[102]⟩, .int .i64 2, .int .i64 2, .int .i64 5, .int .i64 0, .int .i64 0, .int .i64 0, .int .i64 0, .string ⟨#[113]⟩, .int .i64 0, .slice none 0 0] 55 (0, 0))).heap.size (W.alloc (.cells #[.string ⟨#[102]⟩, .int .i64 2, .int .i64 2, .int .i64 5, .int .i64 0, .int .i64 0, .int .i64 0, .int .i64 0, .string ⟨#[113]⟩, .int .i64 0, .slice none 0 0] 55 (0, 0))) w' := relay_Told.calls k _ 1 [(sP 5 ⟨#[113]⟩)] t _ (C_q W) (Nat.le_refl _) h
theorem told_po (k : Nat) (t : ByteArray) (h : relay_Told.f k [(sP 5 ⟨#[112]⟩), (sP 6 ⟨#[112]⟩)] = some t) (W : World) : Calls Try.prog 21 #[.slice (some ⟨W.heap.size, 0, none⟩) 2 2] (W.alloc (.cells #[.string ⟨#[102]⟩, .int .i64 2, .int .i64 2, .int .i64 5, .int .i64 0, .int .i64 0, .int .i64 0, .int .i64 0, .string ⟨#[112]⟩, .int .i64 0, .slice none 0 0, .string ⟨#[102]⟩, .int .i64 2, .int .i64 2, .int .i64 6, .int .i64 0, .int .i64 0, .int .i64 0, .int .i64 0, .string ⟨#[112]⟩, .int .i64 0, .slice none 0 0] 55 (0, 0))) fun e w' => e = .returned (.string t) ∧ Below (W.alloc (.cells #[.string ⟨#[102]⟩, .int .i64 2, .int .i64 2, .int .i64 5, .int .i64 0, .int .i64 0, .int .i64 0, .int .i64 0, .string ⟨#[112]⟩, .int .i64 0, .slice none 0 0, .string ⟨#[102]⟩, .int .i64 2, .int .i64 2, .int .i64 6, .int .i64 0, .int .i64 0, .int .i64 0, .int .i64 0, .string ⟨#[112]⟩, .int .i64 0, .slice none 0 0] 55 (0, 0))).heap.size (W.alloc (.cells #[.string ⟨#[102]⟩, .int .i64 2, .int .i64 2, .int .i64 5, .int .i64 0, .int .i64 0, .int .i64 0, .int .i64 0, .string ⟨#[112]⟩, .int .i64 0, .slice none 0 0, .string ⟨#[102]⟩, .int .i64 2, .int .i64 2, .int .i64 6, .int .i64 0, .int .i64 0, .int .i64 0, .int .i64 0, .string ⟨#[112]⟩, .int .i64 0, .slice none 0 0] 55 (0, 0))) w' := relay_Told.calls k _ 2 [(sP 5 ⟨#[112]⟩), (sP 6 ⟨#[112]⟩)] t _ (C_po W) (Nat.le_refl _) h
theorem told_nil (k : Nat) (t : ByteArray) (h : relay_Told.f k [] = some t) (W : World) : Calls Try.prog 21 #[.slice none 0 0] W fun e w' => e = .returned (.string t) ∧ Below W.heap.size W w' := relay_Told.calls k none 0 [] t W (Kd.C_nil k55 W) (Nat.le_refl _) h
set_option maxHeartbeats 16000000 in
set_option maxRecDepth 100000 in
theorem sanity_c (w : World) : Calls Try.prog 14 #[] w fun e w' => e = .returned (.bool true) ∧ Below w.heap.size w w' := by
 obtain ⟨aT, haT⟩ : ∃ x, x = AskB fB 2 [K5] := ⟨_, rfl⟩
 obtain ⟨hE1, hE2, hE3⟩ := ask_evs 2 ⟨by decide, by decide⟩
 obtain ⟨aU, haU⟩ : ∃ x, x = AskB fB 1 [K5] := ⟨_, rfl⟩
 obtain ⟨hU1, hU2, hU3⟩ := ask_evs 1 ⟨by decide, by decide⟩
 rw [← haT] at hE1 hE2 hE3
 rw [← haU] at hU1 hU2 hU3
 obtain ⟨kA, hkA⟩ := hE1.rounds
 obtain ⟨kB, hkB⟩ := hE2.rounds
 obtain ⟨kC, hkC⟩ := hU1.rounds
 have HA := Lib.hid hkA
 have HA2 := Lib.hid hkB
 have HU := Lib.hid hkC
 have HE2 := Lib.hid hE2
 have HE3 := Lib.hid hE3
 have HU2 := Lib.hid hU2
 have HU3 := Lib.hid hU3
 have cA0 : aT.toList = ([6, 97, 115, 107, 2, 102, 4, 2, 4, 10, 0] : List UInt8) := by rw [haT, AskB_lit, toList_data]
 have cA : (aT.toList == ([6, 97, 115, 107, 2, 102, 4, 2, 4, 10, 0] : List UInt8)) = true := by rw [cA0]; rfl
 clear hkA hkB hkC hE1 hE2 hE3 hU1 hU2 hU3 haT haU
 go_enter Try.func14, Try.ntmps14
 go_upto_region 2 with (refine wpList_store_mid rfl 52 (.tmp 1) (.tmp 24) rfl _ 0 #[.int .i64 2, .int .i64 5, .int .i64 0] rfl rfl (there_blk (blk_new _ _) rfl) (inf3 rfl) one3 ?_)
 obtain ⟨K, hK⟩ : ∃ K, K = w.heap.size := ⟨_, rfl⟩
 have HK := Lib.hid (setCells_full #[.int .i64 2, .int .i64 5, .int .i64 0] (blk_new w (.cells #[.int .i64 0, .int .i64 0, .int .i64 0] 52 (0, 0))) rfl)
 have HB := Lib.hid (below_cells (Nat.le_refl _) (#[.int .i64 2, .int .i64 5, .int .i64 0] : Array Value).toList 0 _ (below_alloc (Below.refl w.heap.size w) (.cells #[.int .i64 0, .int .i64 0, .int .i64 0] 52 (0, 0))))
 generalize (w.alloc (.cells #[.int .i64 0, .int .i64 0, .int .i64 0] 52 (0, 0))).setCells w.heap.size 0 (#[.int .i64 2, .int .i64 5, .int .i64 0] : Array Value).toList = W1 at HK HB ⊢
 rw [← hK] at HK
 simp only [← hK]
 clear hK
 have k0 := ck HK.out 0 _ rfl
 have k1 := ck HK.out 1 _ rfl
 have k2 := ck HK.out 2 _ rfl
 go_upto_region 4 with (first
  | (go_at_call 16; refine (relay_Ask.calls kA fB 2 _ 1 [K5] aT _ (C_keys W1 [K5] #[.int .i64 2, .int .i64 5, .int .i64 0] 1 rfl rfl (by decide)) (by decide) HA.out).mono ?_; rintro e W2 ⟨rfl, hb⟩; have HB2 := Lib.hid ((below_alloc (Below.refl W1.heap.size W1) (.cells #[.int .i64 2, .int .i64 5, .int .i64 0] 52 (0, 0))).trans (hb.mono (below_alloc (Below.refl W1.heap.size W1) (.cells #[.int .i64 2, .int .i64 5, .int .i64 0] 52 (0, 0))).size)); clear hb)
  | (go_at_call 17; refine (relay_Asked.calls kB aT fB 2 [K5] true _ HA2.out).mono ?_; rintro e W3 ⟨v5, rfl, hr, hb⟩; have HB3 := Lib.hid (HB2.out.trans (hb.mono HB2.out.size)); have HR5 := Lib.hid hr; obtain ⟨A5, c5, rfl⟩ := Kd.R_slice hr; clear hr hb))
 obtain ⟨g5, rfl⟩ := R_some HR5.out (by decide)
 obtain ⟨r0, r1, r2⟩ := elem52 (Kd.R_reads' HR5.out).2.2 (show [K5][0]? = some K5 from rfl)
 simp only [Nat.zero_mul, Nat.zero_add] at r0 r1 r2
 have HKn := Lib.hid ((HB3.out.block K (blk_lt HK.out)).trans HK.out)
 have HBn := Lib.hid (HB.out.trans (HB3.out.mono HB.out.size))
 clear HK HB HB2 k0 k1 k2
 have HK := Lib.hid (show W3.drew.heap[K]? = _ from HKn.out)
 have HB := Lib.hid HBn.out.drew
 have k0 := ck HK.out 0 _ rfl
 have k1 := ck HK.out 1 _ rfl
 have k2 := ck HK.out 2 _ rfl
 have e52 : ∀ W : World, (binOp .eql 52 (.agg #[.int .i64 2, .int .i64 5, .int .i64 0]) (.agg #[.int .i64 2, .int .i64 5, .int .i64 0])).run Try.prog W = .ok (.bool true) W := fun W => eq52 2 5 0 2 5 0 W
 have hn5 : ([K5] : List S52).length = 1 := rfl
 try simp only [hn5]
 clear hn5 HKn HBn HB3
 refine start_ (n := 26) (S := fun w' => w'.cell? ⟨g5, 0, none⟩ = some (.int .i64 2) ∧ w'.cell? ⟨g5, 1, none⟩ = some (.int .i64 5) ∧ w'.cell? ⟨g5, 2, none⟩ = some (.int .i64 0) ∧ w'.cell? ⟨K, 0, none⟩ = some (.int .i64 2) ∧ w'.cell? ⟨K, 1, none⟩ = some (.int .i64 5) ∧ w'.cell? ⟨K, 2, none⟩ = some (.int .i64 0)) (ds := []) #[false, false, false, false, false, false, false, false, false, false, false, false, false, false, false, false, false, false, false, false, false, false, false, false, false, false] (by kernel_rfl) rfl rfl ⟨r0, r1, r2, k0, k1, k2⟩ (fun hHeld => ?_)
 generalize W3.drew = wd at HK HB k0 k1 k2 hHeld ⊢
 refine pA 0 (some 35) rfl rfl zaz0 zaz1 ?_
 refine pA 1 (some 36) rfl rfl zaz0 zaz1 ?_
 refine pA 2 (some 37) rfl rfl zaz0 zaz1 ?_
 refine pA 3 (some 38) rfl rfl zaz0 zaz1 ?_
 refine pA 4 (some 39) rfl rfl zaz0 zaz1 ?_
 refine pA 5 (some 40) rfl rfl zaz0 zaz1 ?_
 refine pA 6 (some 41) rfl rfl zaz0 zaz1 ?_
 refine pA 7 (some 42) rfl rfl zaz0 zaz1 ?_
 refine pA 8 (some 43) rfl rfl zaz0 zaz1 ?_
 refine pA 9 (some 44) rfl rfl zaz0 zaz1 ?_
 refine pA 10 (some 45) rfl rfl zaz0 zaz1 ?_
 refine pA 11 (some 46) rfl rfl zaz0 zaz1 ?_
 refine pA 12 (some 47) rfl rfl zaz0 zaz1 ?_
 refine pA 13 (some 48) rfl rfl zaz0 zaz1 ?_
 refine pA 14 (some 49) rfl rfl zaz0 zaz1 ?_
 refine pA 15 (some 50) rfl rfl zaz0 zaz1 ?_
 refine pA 16 (some 51) rfl rfl zaz0 zaz1 ?_
 refine pA 17 (some 52) rfl rfl zaz0 zaz1 ?_
 refine pA 18 (some 53) rfl rfl zaz0 zaz1 ?_
 refine pA 19 (some 54) rfl rfl zaz0 zaz1 ?_
 refine pA 20 (some 55) rfl rfl zaz0 zaz1 ?_
 refine tA 21 (some 56) rfl rfl (by rintro w' ⟨s0, s1, s2, s3, s4, s5⟩; go_simp; with_reducible rfl) hHeld zaz1 ?_
 refine tA 22 (some 57) rfl rfl (by rintro w' ⟨s0, s1, s2, s3, s4, s5⟩; go_simp; with_reducible rfl) hHeld zaz1 ?_
 refine pA 23 (some 58) rfl rfl zaz0 zaz1 ?_
 refine pA 24 (some 59) rfl rfl zaz0 zaz1 ?_
 refine pA 25 (some 7) rfl rfl zaz0 zaz1 ?_
 refine done_ (by kernel_rfl) ?_
 clear r0 r1 r2 hHeld e52 cA cA0 HR5
 go_upto_region 6 with (first
  | (refine wpList_store_mid rfl 55 (.tmp 8) (.tmp 61) rfl _ 0 #[.string ⟨#[102]⟩, .int .i64 2, .int .i64 2, .int .i64 5, .int .i64 0, .int .i64 0, .int .i64 0, .int .i64 0, .string ⟨#[112]⟩, .int .i64 0, .slice none 0 0] rfl rfl (there_blk (blk_new _ _) rfl) (inf11 rfl) one11 ?_))
 obtain ⟨G8, hG8⟩ : ∃ G, G = wd.heap.size := ⟨_, rfl⟩
 have HG8n := Lib.hid (setCells_full #[.string ⟨#[102]⟩, .int .i64 2, .int .i64 2, .int .i64 5, .int .i64 0, .int .i64 0, .int .i64 0, .int .i64 0, .string ⟨#[112]⟩, .int .i64 0, .slice none 0 0] (blk_new wd (.cells ZP 55 (0, 0))) rfl)
 have HKn := Lib.hid ((setCells_other (Nat.ne_of_lt (blk_lt HK.out)) (#[.string ⟨#[102]⟩, .int .i64 2, .int .i64 2, .int .i64 5, .int .i64 0, .int .i64 0, .int .i64 0, .int .i64 0, .string ⟨#[112]⟩, .int .i64 0, .slice none 0 0] : Array Value).toList 0 (wd.alloc (.cells ZP 55 (0, 0)))).trans (blk_alloc HK.out _))
 have HN_K_G8 := Lib.hid (show K ≠ G8 from hG8 ▸ Nat.ne_of_lt (blk_lt HK.out))
 have HGE_G8 := Lib.hid (show w.heap.size ≤ G8 from hG8 ▸ HB.out.size)
 have HBn := Lib.hid (below_cells HB.out.size (#[.string ⟨#[102]⟩, .int .i64 2, .int .i64 2, .int .i64 5, .int .i64 0, .int .i64 0, .int .i64 0, .int .i64 0, .string ⟨#[112]⟩, .int .i64 0, .slice none 0 0] : Array Value).toList 0 _ (below_alloc HB.out (.cells ZP 55 (0, 0))))
 generalize (wd.alloc (.cells ZP 55 (0, 0))).setCells wd.heap.size 0 (#[.string ⟨#[102]⟩, .int .i64 2, .int .i64 2, .int .i64 5, .int .i64 0, .int .i64 0, .int .i64 0, .int .i64 0, .string ⟨#[112]⟩, .int .i64 0, .slice none 0 0] : Array Value).toList = w5 at HG8n HBn HKn ⊢
 rw [← hG8] at HG8n
 simp only [← hG8]
 clear HB hG8 HK
 have HK := HKn
 clear HKn
 have HG8 := HG8n
 clear HG8n
 have HB := HBn
 clear HBn
 go_upto_region 7 with (first
  | (refine wpList_load_mid rfl 55 (.tmp 8) rfl G8 0 rfl (#[.string ⟨#[102]⟩, .int .i64 2, .int .i64 2, .int .i64 5, .int .i64 0, .int .i64 0, .int .i64 0, .int .i64 0, .string ⟨#[112]⟩, .int .i64 0, .slice none 0 0] : Array Value).toList _ (rangeAt_blk HG8.out) Try.underlying55 rfl (inf11 rfl) ?_)
  | (refine wpList_store_mid rfl 55 (.tmp 9) (.tmp 62) rfl _ 0 #[.string ⟨#[102]⟩, .int .i64 2, .int .i64 2, .int .i64 5, .int .i64 0, .int .i64 0, .int .i64 0, .int .i64 0, .string ⟨#[112]⟩, .int .i64 0, .slice none 0 0] rfl rfl (there_blk (blk_new _ _) rfl) (inf11 rfl) one11 ?_))
 obtain ⟨G9, hG9⟩ : ∃ G, G = w5.heap.size := ⟨_, rfl⟩
 have HG9n := Lib.hid (setCells_full #[.string ⟨#[102]⟩, .int .i64 2, .int .i64 2, .int .i64 5, .int .i64 0, .int .i64 0, .int .i64 0, .int .i64 0, .string ⟨#[112]⟩, .int .i64 0, .slice none 0 0] (blk_new w5 (.cells ZP 55 (0, 0))) rfl)
 have HKn := Lib.hid ((setCells_other (Nat.ne_of_lt (blk_lt HK.out)) (#[.string ⟨#[102]⟩, .int .i64 2, .int .i64 2, .int .i64 5, .int .i64 0, .int .i64 0, .int .i64 0, .int .i64 0, .string ⟨#[112]⟩, .int .i64 0, .slice none 0 0] : Array Value).toList 0 (w5.alloc (.cells ZP 55 (0, 0)))).trans (blk_alloc HK.out _))
 have HG8n := Lib.hid ((setCells_other (Nat.ne_of_lt (blk_lt HG8.out)) (#[.string ⟨#[102]⟩, .int .i64 2, .int .i64 2, .int .i64 5, .int .i64 0, .int .i64 0, .int .i64 0, .int .i64 0, .string ⟨#[112]⟩, .int .i64 0, .slice none 0 0] : Array Value).toList 0 (w5.alloc (.cells ZP 55 (0, 0)))).trans (blk_alloc HG8.out _))
 have HN_K_G9 := Lib.hid (show K ≠ G9 from hG9 ▸ Nat.ne_of_lt (blk_lt HK.out))
 have HN_G8_G9 := Lib.hid (show G8 ≠ G9 from hG9 ▸ Nat.ne_of_lt (blk_lt HG8.out))
 have HGE_G9 := Lib.hid (show w.heap.size ≤ G9 from hG9 ▸ HB.out.size)
 have HBn := Lib.hid (below_cells HB.out.size (#[.string ⟨#[102]⟩, .int .i64 2, .int .i64 2, .int .i64 5, .int .i64 0, .int .i64 0, .int .i64 0, .int .i64 0, .string ⟨#[112]⟩, .int .i64 0, .slice none 0 0] : Array Value).toList 0 _ (below_alloc HB.out (.cells ZP 55 (0, 0))))
 generalize (w5.alloc (.cells ZP 55 (0, 0))).setCells w5.heap.size 0 (#[.string ⟨#[102]⟩, .int .i64 2, .int .i64 2, .int .i64 5, .int .i64 0, .int .i64 0, .int .i64 0, .int .i64 0, .string ⟨#[112]⟩, .int .i64 0, .slice none 0 0] : Array Value).toList = w6 at HG9n HBn HKn HG8n ⊢
 rw [← hG9] at HG9n
 simp only [← hG9]
 clear HB hG9 HK HG8
 have HK := HKn
 clear HKn
 have HG8 := HG8n
 clear HG8n
 have HG9 := HG9n
 clear HG9n
 have HB := HBn
 clear HBn
 have fG9 := fz HG9.out 8
 have cG9 := ck HG9.out 8 _ rfl
 go_upto_region 8 with fail
 have HKn := Lib.hid ((Below.heap_setCell w6 ⟨G9, 8, none⟩ (.string ⟨#[113]⟩) _ HN_K_G9.out).trans HK.out)
 have HG8n := Lib.hid ((Below.heap_setCell w6 ⟨G9, 8, none⟩ (.string ⟨#[113]⟩) _ HN_G8_G9.out).trans HG8.out)
 have HG9n := Lib.hid (cell_set (cs' := #[.string ⟨#[102]⟩, .int .i64 2, .int .i64 2, .int .i64 5, .int .i64 0, .int .i64 0, .int .i64 0, .int .i64 0, .string ⟨#[113]⟩, .int .i64 0, .slice none 0 0]) HG9.out 8 (by simp) (.string ⟨#[113]⟩) rfl)
 have HBn := Lib.hid (HB.out.setCell (p := ⟨G9, 8, none⟩) HGE_G9.out (.string ⟨#[113]⟩))
 generalize w6.setCell ⟨G9, 8, none⟩ (.string ⟨#[113]⟩) = w7 at HG9n HBn HKn HG8n ⊢
 clear HB fG9 cG9 HG9 HK HG8
 have HK := HKn
 clear HKn
 have HG8 := HG8n
 clear HG8n
 have HG9 := HG9n
 clear HG9n
 have HB := HBn
 clear HBn
 go_upto_region 9 with (first
  | (refine wpList_load_mid rfl 55 (.tmp 8) rfl G8 0 rfl (#[.string ⟨#[102]⟩, .int .i64 2, .int .i64 2, .int .i64 5, .int .i64 0, .int .i64 0, .int .i64 0, .int .i64 0, .string ⟨#[112]⟩, .int .i64 0, .slice none 0 0] : Array Value).toList _ (rangeAt_blk HG8.out) Try.underlying55 rfl (inf11 rfl) ?_)
  | (refine wpList_store_mid rfl 55 (.tmp 10) (.tmp 64) rfl _ 0 #[.string ⟨#[102]⟩, .int .i64 2, .int .i64 2, .int .i64 5, .int .i64 0, .int .i64 0, .int .i64 0, .int .i64 0, .string ⟨#[112]⟩, .int .i64 0, .slice none 0 0] rfl rfl (there_blk (blk_new _ _) rfl) (inf11 rfl) one11 ?_))
 obtain ⟨G10, hG10⟩ : ∃ G, G = w7.heap.size := ⟨_, rfl⟩
 have HG10n := Lib.hid (setCells_full #[.string ⟨#[102]⟩, .int .i64 2, .int .i64 2, .int .i64 5, .int .i64 0, .int .i64 0, .int .i64 0, .int .i64 0, .string ⟨#[112]⟩, .int .i64 0, .slice none 0 0] (blk_new w7 (.cells ZP 55 (0, 0))) rfl)
 have HKn := Lib.hid ((setCells_other (Nat.ne_of_lt (blk_lt HK.out)) (#[.string ⟨#[102]⟩, .int .i64 2, .int .i64 2, .int .i64 5, .int .i64 0, .int .i64 0, .int .i64 0, .int .i64 0, .string ⟨#[112]⟩, .int .i64 0, .slice none 0 0] : Array Value).toList 0 (w7.alloc (.cells ZP 55 (0, 0)))).trans (blk_alloc HK.out _))
 have HG8n := Lib.hid ((setCells_other (Nat.ne_of_lt (blk_lt HG8.out)) (#[.string ⟨#[102]⟩, .int .i64 2, .int .i64 2, .int .i64 5, .int .i64 0, .int .i64 0, .int .i64 0, .int .i64 0, .string ⟨#[112]⟩, .int .i64 0, .slice none 0 0] : Array Value).toList 0 (w7.alloc (.cells ZP 55 (0, 0)))).trans (blk_alloc HG8.out _))
 have HG9n := Lib.hid ((setCells_other (Nat.ne_of_lt (blk_lt HG9.out)) (#[.string ⟨#[102]⟩, .int .i64 2, .int .i64 2, .int .i64 5, .int .i64 0, .int .i64 0, .int .i64 0, .int .i64 0, .string ⟨#[112]⟩, .int .i64 0, .slice none 0 0] : Array Value).toList 0 (w7.alloc (.cells ZP 55 (0, 0)))).trans (blk_alloc HG9.out _))
 have HN_K_G10 := Lib.hid (show K ≠ G10 from hG10 ▸ Nat.ne_of_lt (blk_lt HK.out))
 have HN_G8_G10 := Lib.hid (show G8 ≠ G10 from hG10 ▸ Nat.ne_of_lt (blk_lt HG8.out))
 have HN_G9_G10 := Lib.hid (show G9 ≠ G10 from hG10 ▸ Nat.ne_of_lt (blk_lt HG9.out))
 have HGE_G10 := Lib.hid (show w.heap.size ≤ G10 from hG10 ▸ HB.out.size)
 have HBn := Lib.hid (below_cells HB.out.size (#[.string ⟨#[102]⟩, .int .i64 2, .int .i64 2, .int .i64 5, .int .i64 0, .int .i64 0, .int .i64 0, .int .i64 0, .string ⟨#[112]⟩, .int .i64 0, .slice none 0 0] : Array Value).toList 0 _ (below_alloc HB.out (.cells ZP 55 (0, 0))))
 generalize (w7.alloc (.cells ZP 55 (0, 0))).setCells w7.heap.size 0 (#[.string ⟨#[102]⟩, .int .i64 2, .int .i64 2, .int .i64 5, .int .i64 0, .int .i64 0, .int .i64 0, .int .i64 0, .string ⟨#[112]⟩, .int .i64 0, .slice none 0 0] : Array Value).toList = w8 at HG10n HBn HKn HG8n HG9n ⊢
 rw [← hG10] at HG10n
 simp only [← hG10]
 clear HB hG10 HK HG8 HG9
 have HK := HKn
 clear HKn
 have HG8 := HG8n
 clear HG8n
 have HG9 := HG9n
 clear HG9n
 have HG10 := HG10n
 clear HG10n
 have HB := HBn
 clear HBn
 have fG10 := fz HG10.out 3
 have cG10 := ck HG10.out 3 _ rfl
 go_upto_region 10 with fail
 have HKn := Lib.hid ((Below.heap_setCell w8 ⟨G10, 3, none⟩ (.int .i64 6) _ HN_K_G10.out).trans HK.out)
 have HG8n := Lib.hid ((Below.heap_setCell w8 ⟨G10, 3, none⟩ (.int .i64 6) _ HN_G8_G10.out).trans HG8.out)
 have HG9n := Lib.hid ((Below.heap_setCell w8 ⟨G10, 3, none⟩ (.int .i64 6) _ HN_G9_G10.out).trans HG9.out)
 have HG10n := Lib.hid (cell_set (cs' := #[.string ⟨#[102]⟩, .int .i64 2, .int .i64 2, .int .i64 6, .int .i64 0, .int .i64 0, .int .i64 0, .int .i64 0, .string ⟨#[112]⟩, .int .i64 0, .slice none 0 0]) HG10.out 3 (by simp) (.int .i64 6) rfl)
 have HBn := Lib.hid (HB.out.setCell (p := ⟨G10, 3, none⟩) HGE_G10.out (.int .i64 6))
 generalize w8.setCell ⟨G10, 3, none⟩ (.int .i64 6) = w9 at HG10n HBn HKn HG8n HG9n ⊢
 clear HB fG10 cG10 HG10 HK HG8 HG9
 have HK := HKn
 clear HKn
 have HG8 := HG8n
 clear HG8n
 have HG9 := HG9n
 clear HG9n
 have HG10 := HG10n
 clear HG10n
 have HB := HBn
 clear HBn
 go_upto_region 13 with (go_at_call 27; refine (New_c 3 1000 (by decide) _).mono ?_; rintro e WA ⟨g, b, rfl, hb, hg, hb2, hs⟩; have HD := Lib.hid hb; have HGE := Lib.hid (show w9.heap.size ≤ g ∧ w9.heap.size ≤ b from ⟨hg, hb2⟩); have HS := Lib.hid hs; clear hb hg hb2 hs)
 have H8a := Lib.hid ((HD.out.block _ (blk_lt HG8.out)).trans HG8.out)
 go_upto_region 14 with (first
  | (refine wpList_load_mid rfl 55 (.tmp 8) rfl G8 0 rfl (#[.string ⟨#[102]⟩, .int .i64 2, .int .i64 2, .int .i64 5, .int .i64 0, .int .i64 0, .int .i64 0, .int .i64 0, .string ⟨#[112]⟩, .int .i64 0, .slice none 0 0] : Array Value).toList _ (rangeAt_blk H8a.out) Try.underlying55 rfl (inf11 rfl) ?_)
  | (go_at_call 31; refine (keep_s 5 ⟨#[112]⟩ HS.out (by decide) (by decide) (by decide) pk_p keep1).mono ?_; rintro e WB ⟨rfl, ho, hs⟩; have n_ := Lib.hid (Only.bel HD.out ho HGE.out.1 HGE.out.2); clear HD; have HD := n_; clear n_; clear HS; have HS := Lib.hid hs; clear ho hs))
 go_upto_region 15 with (go_at_call 33; refine (Take_asked HS.out (by decide) (by decide) (by decide) aT fB 2 [K5] HE2.out (by decide) HE3.out 1 3 rfl).mono ?_; rintro e WC ⟨m13, rfl, hm, hc, ho, hs⟩; rw [askL_p] at hc; have HN13 := Lib.hid (show m13 ≠ g ∧ m13 ≠ b from by have h_ := HS.out.gb; exact ⟨by omega, by omega⟩); have HM13 := Lib.hid hc; have n_ := Lib.hid (Only.bel HD.out ho HGE.out.1 HGE.out.2); clear HD; have HD := n_; clear n_; clear HS; have HS := Lib.hid hs; clear hm hc ho hs)
 clear H8a
 have HKa := Lib.hid ((HD.out.block _ (blk_lt HK.out)).trans HK.out)
 have k0 := ck HKa.out 0 _ rfl
 have k1 := ck HKa.out 1 _ rfl
 have k2 := ck HKa.out 2 _ rfl
 go_upto_region 16 with (first
  | (go_at_call 16; refine (relay_Ask.calls kC fB 1 _ 1 [K5] aU _ (C_keys WC [K5] #[.int .i64 2, .int .i64 5, .int .i64 0] 1 rfl rfl (by decide)) (by decide) HU.out).mono ?_; rintro e WD ⟨rfl, hb0⟩; have hb := (below_alloc (Below.refl WC.heap.size WC) (.cells #[.int .i64 2, .int .i64 5, .int .i64 0] 52 (0, 0))).trans (hb0.mono (below_alloc (Below.refl WC.heap.size WC) (.cells #[.int .i64 2, .int .i64 5, .int .i64 0] 52 (0, 0))).size); have n_ := Lib.hid (HD.out.trans (hb.mono HD.out.size)); clear HD; have HD := n_; clear n_; have n_ := Lib.hid (HS.out.below hb); clear HS; have HS := n_; clear n_; have n_ := Lib.hid (blk_below HM13.out hb); clear HM13; have HM13 := n_; clear n_; clear hb hb0)
  | (go_at_call 33; refine (Take_asked HS.out (by decide) (by decide) (by decide) aU fB 1 [K5] HU2.out (by decide) HU3.out 1 3 rfl).mono ?_; rintro e WE ⟨m14, rfl, hm, hc, ho, hs⟩; rw [askL_1] at hc; have HM14 := Lib.hid hc; have n_ := Lib.hid ((ho.block _ (blk_lt HM13.out) HN13.out.1 HN13.out.2).trans HM13.out); clear HM13; have HM13 := n_; clear n_; have n_ := Lib.hid (Only.bel HD.out ho HGE.out.1 HGE.out.2); clear HD; have HD := n_; clear n_; clear HS; have HS := Lib.hid hs; clear hm hc ho hs))
 clear k0 k1 k2 HKa
 obtain ⟨tP, htP⟩ : ∃ x, x = ToldB [(sP 5 ⟨#[112]⟩)] := ⟨_, rfl⟩
 obtain ⟨tN, htN⟩ : ∃ x, x = ToldB [] := ⟨_, rfl⟩
 obtain ⟨hP1, -⟩ := told_evs [(sP 5 ⟨#[112]⟩)] (by decide) (fun x hx => by rw [List.mem_singleton.1 hx]; exact pk_p)
 obtain ⟨hN1, -⟩ := told_evs [] (by decide) (fun x hx => by simp at hx)
 rw [← htP] at hP1
 rw [← htN] at hN1
 obtain ⟨kP, hkP⟩ := hP1.rounds
 obtain ⟨kN, hkN⟩ := hN1.rounds
 have HTP := Lib.hid hkP
 have HTN := Lib.hid hkN
 rw [← htP] at HM13
 rw [← htN] at HM14
 clear hP1 hN1 hkP hkN htP htN
 have HS2 := Lib.hid (HS.out.below (below_drew (Below.refl WE.heap.size WE)))
 have HD2 := Lib.hid HD.out.drew
 have HM13d := Lib.hid (show WE.drew.heap[m13]? = _ from HM13.out)
 have HM14d := Lib.hid (show WE.drew.heap[m14]? = _ from HM14.out)
 have H8a := Lib.hid ((HD2.out.block _ (blk_lt HG8.out)).trans HG8.out)
 clear HS HD HM13 HM14
 have m0 := ck HM13d.out 0 _ rfl
 have m1 := ck HM13d.out 1 _ rfl
 have m2 := ck HM13d.out 2 _ rfl
 have m3 := ck HM14d.out 2 _ rfl
 have lm := blk_lt HM13d.out
 have ln := blk_lt HM14d.out
 have l8 := blk_lt H8a.out
 have e68 := eq68 3 1 tP
 have x0 := ck H8a.out 0 _ rfl
 have x1 := ck H8a.out 1 _ rfl
 have x2 := ck H8a.out 2 _ rfl
 have x3 := ck H8a.out 3 _ rfl
 have x4 := ck H8a.out 4 _ rfl
 have x5 := ck H8a.out 5 _ rfl
 have x6 := ck H8a.out 6 _ rfl
 have x7 := ck H8a.out 7 _ rfl
 have x8 := ck H8a.out 8 _ rfl
 have x9 := ck H8a.out 9 _ rfl
 have x10 := ck H8a.out 10 _ rfl
 refine start_ (n := 39) (S := fun w' => w'.cell? ⟨m13, 0, none⟩ = some (.int .i64 3) ∧ w'.cell? ⟨m13, 1, none⟩ = some (.int .i64 1) ∧ w'.cell? ⟨m13, 2, none⟩ = some (.string tP) ∧ w'.cell? ⟨m14, 2, none⟩ = some (.string tN) ∧ w'.cell? ⟨G8, 0, none⟩ = some (.string ⟨#[102]⟩) ∧ w'.cell? ⟨G8, 1, none⟩ = some (.int .i64 2) ∧ w'.cell? ⟨G8, 2, none⟩ = some (.int .i64 2) ∧ w'.cell? ⟨G8, 3, none⟩ = some (.int .i64 5) ∧ w'.cell? ⟨G8, 4, none⟩ = some (.int .i64 0) ∧ w'.cell? ⟨G8, 5, none⟩ = some (.int .i64 0) ∧ w'.cell? ⟨G8, 6, none⟩ = some (.int .i64 0) ∧ w'.cell? ⟨G8, 7, none⟩ = some (.int .i64 0) ∧ w'.cell? ⟨G8, 8, none⟩ = some (.string ⟨#[112]⟩) ∧ w'.cell? ⟨G8, 9, none⟩ = some (.int .i64 0) ∧ w'.cell? ⟨G8, 10, none⟩ = some (.slice none 0 0)) (ds := []) #[false, false, false, false, false, false, false, false, false, false, false, false, false, false, false, false, false, false, false, false, false, false, false, false, false, false, false, false, false, false, false, false, false, false, false, false, false, false, false] (by kernel_rfl) rfl rfl ⟨m0, m1, m2, m3, x0, x1, x2, x3, x4, x5, x6, x7, x8, x9, x10⟩ (fun hHeld => ?_)
 generalize WE.drew = wd at HS2 HD2 HM13d HM14d H8a m0 m1 m2 m3 x0 x1 x2 x3 x4 x5 x6 x7 x8 x9 x10 lm ln l8 hHeld ⊢; have HX := Lib.hid (Below.refl wd.heap.size wd)
 refine pA 0 (some 83) rfl rfl zaz0 zaz1 ?_
 refine pA 1 (some 84) rfl rfl zaz0 zaz1 ?_
 refine pA 2 (some 85) rfl rfl zaz0 zaz1 ?_
 refine pA 3 (some 86) rfl rfl zaz0 zaz1 ?_
 refine pA 4 (some 87) rfl rfl zaz0 zaz1 ?_
 refine pA 5 (some 88) rfl rfl zaz0 zaz1 ?_
 refine pA 6 (some 89) rfl rfl zaz0 zaz1 ?_
 refine pA 7 (some 90) rfl rfl zaz0 zaz1 ?_
 refine pA 8 (some 91) rfl rfl zaz0 zaz1 ?_
 refine pA 9 (some 92) rfl rfl zaz0 zaz1 ?_
 refine tA 10 (some 93) rfl rfl zaz4 hHeld zaz1 ?_
 refine tA 11 (some 94) rfl rfl zaz4 hHeld zaz1 ?_
 refine oA 12 (some 95) rfl rfl (fun K hK => ?_)
 refine value_ (w1 := ?_) (v := ?_) (by rfl) rfl ?_ ?_
 rotate_left 2
 · go_simp
   constructor
   · rfl
   · rfl
 have ha := below_alloc (Below.refl wd.heap.size wd) (.cells #[.string ⟨#[102]⟩, .int .i64 2, .int .i64 2, .int .i64 5, .int .i64 0, .int .i64 0, .int .i64 0, .int .i64 0, .string ⟨#[112]⟩, .int .i64 0, .slice none 0 0] 55 (0, 0))
 have n_ := Lib.hid (HX.out.trans (ha.mono HX.out.size)); clear HX; have HX := n_; clear n_
 clear ha
 refine hK.out _ _ ⟨(HX.out.cell lm).trans m0, (HX.out.cell lm).trans m1, (HX.out.cell lm).trans m2, (HX.out.cell ln).trans m3, (HX.out.cell l8).trans x0, (HX.out.cell l8).trans x1, (HX.out.cell l8).trans x2, (HX.out.cell l8).trans x3, (HX.out.cell l8).trans x4, (HX.out.cell l8).trans x5, (HX.out.cell l8).trans x6, (HX.out.cell l8).trans x7, (HX.out.cell l8).trans x8, (HX.out.cell l8).trans x9, (HX.out.cell l8).trans x10⟩ (fun hHeld => norm_ zaz2 ?_)
 clear hK K
 refine oA 13 (some 96) rfl rfl (fun K hK => ?_)
 refine goes_ Try.func21 (by kernel_rfl) rfl #[.slice (some ⟨wd.heap.size, 0, none⟩) 1 1] (by rfl) rfl rfl zaz3 ?_
 with_reducible refine (told_p kP tP HTP.out wd).mono ?_
 rintro e wx ⟨rfl, hbx⟩
 refine ⟨_, rfl, ?_⟩
 have n_ := Lib.hid (HX.out.trans (hbx.mono HX.out.size)); clear HX; have HX := n_; clear n_
 refine hK.out _ _ ⟨(HX.out.cell lm).trans m0, (HX.out.cell lm).trans m1, (HX.out.cell lm).trans m2, (HX.out.cell ln).trans m3, (HX.out.cell l8).trans x0, (HX.out.cell l8).trans x1, (HX.out.cell l8).trans x2, (HX.out.cell l8).trans x3, (HX.out.cell l8).trans x4, (HX.out.cell l8).trans x5, (HX.out.cell l8).trans x6, (HX.out.cell l8).trans x7, (HX.out.cell l8).trans x8, (HX.out.cell l8).trans x9, (HX.out.cell l8).trans x10⟩ (fun hHeld => norm_ zaz2 ?_)
 clear hK K
 refine pA 14 (some 97) rfl rfl zaz0 zaz1 ?_
 refine pA 15 (some 98) rfl rfl zaz0 zaz1 ?_
 refine pA 16 (some 99) rfl rfl zaz0 zaz1 ?_
 refine pA 17 (some 100) rfl rfl zaz0 zaz1 ?_
 refine pA 18 (some 101) rfl rfl zaz0 zaz1 ?_
 refine pA 19 (some 102) rfl rfl zaz0 zaz1 ?_
 refine pA 20 (some 103) rfl rfl zaz0 zaz1 ?_
 refine pA 21 (some 104) rfl rfl zaz0 zaz1 ?_
 refine pA 22 (some 105) rfl rfl zaz0 zaz1 ?_
 refine pA 23 (some 106) rfl rfl zaz0 zaz1 ?_
 refine pA 24 (some 107) rfl rfl zaz0 zaz1 ?_
 refine pA 25 (some 108) rfl rfl zaz0 zaz1 ?_
 refine tA 26 (some 109) rfl rfl zaz4 hHeld zaz1 ?_
 refine oA 27 (some 110) rfl rfl (fun K hK => ?_)
 refine goes_ Try.func21 (by kernel_rfl) rfl #[.slice none 0 0] (by rfl) rfl rfl zaz3 ?_
 with_reducible refine (told_nil kN tN HTN.out _).mono ?_
 rintro e wy ⟨rfl, hby⟩
 refine ⟨_, rfl, ?_⟩
 have n_ := Lib.hid (HX.out.trans (hby.mono HX.out.size)); clear HX; have HX := n_; clear n_
 refine hK.out _ _ ⟨(HX.out.cell lm).trans m0, (HX.out.cell lm).trans m1, (HX.out.cell lm).trans m2, (HX.out.cell ln).trans m3, (HX.out.cell l8).trans x0, (HX.out.cell l8).trans x1, (HX.out.cell l8).trans x2, (HX.out.cell l8).trans x3, (HX.out.cell l8).trans x4, (HX.out.cell l8).trans x5, (HX.out.cell l8).trans x6, (HX.out.cell l8).trans x7, (HX.out.cell l8).trans x8, (HX.out.cell l8).trans x9, (HX.out.cell l8).trans x10⟩ (fun hHeld => norm_ zaz2 ?_)
 clear hK K
 refine pA 28 (some 111) rfl rfl zaz0 zaz1 ?_
 refine pA 29 (some 112) rfl rfl zaz0 zaz1 ?_
 refine pA 30 (some 113) rfl rfl zaz0 zaz1 ?_
 refine pA 31 (some 114) rfl rfl zaz0 zaz1 ?_
 refine pA 32 (some 115) rfl rfl zaz0 zaz1 ?_
 refine pA 33 (some 116) rfl rfl zaz0 zaz1 ?_
 refine oA 34 (some 117) rfl rfl (fun K hK => ?_)
 refine goes_ Try.func33 (by kernel_rfl) rfl #[.pointer (some ⟨g, 0, none⟩), .agg #[.int .i64 1, .int .i64 4, .string aT]] (by rfl) rfl rfl zaz3 ?_
 with_reducible refine (Take_other (HS2.out.below HX.out) (by decide) 1 4 (by decide) aT).mono ?_
 rintro e wz ⟨rfl, hbz⟩
 refine ⟨_, rfl, ?_⟩
 have n_ := Lib.hid (HX.out.trans (hbz.mono HX.out.size)); clear HX; have HX := n_; clear n_
 refine hK.out _ _ ⟨(HX.out.cell lm).trans m0, (HX.out.cell lm).trans m1, (HX.out.cell lm).trans m2, (HX.out.cell ln).trans m3, (HX.out.cell l8).trans x0, (HX.out.cell l8).trans x1, (HX.out.cell l8).trans x2, (HX.out.cell l8).trans x3, (HX.out.cell l8).trans x4, (HX.out.cell l8).trans x5, (HX.out.cell l8).trans x6, (HX.out.cell l8).trans x7, (HX.out.cell l8).trans x8, (HX.out.cell l8).trans x9, (HX.out.cell l8).trans x10⟩ (fun hHeld => norm_ zaz2 ?_)
 clear hK K
 refine pA 35 (some 118) rfl rfl zaz0 zaz1 ?_
 refine pA 36 (some 119) rfl rfl zaz0 zaz1 ?_
 refine pA 37 (some 120) rfl rfl zaz0 zaz1 ?_
 refine pA 38 (some 15) rfl rfl zaz0 zaz1 ?_
 refine done_ (by kernel_rfl) ?_
 clear x0 x1 x2 x3 x4 x5 x6 x7 x8 x9 x10 m0 m1 m2 m3 lm ln l8 e68 hHeld HM13d HM14d H8a
 have HD := Lib.hid (HD2.out.trans (HX.out.mono HD2.out.size))
 have HS := Lib.hid (HS2.out.below HX.out)
 clear HD2 HS2 HX
 obtain ⟨tQ, htQ⟩ : ∃ x, x = ToldB [(sP 5 ⟨#[113]⟩)] := ⟨_, rfl⟩
 obtain ⟨hQ1, hQ2⟩ := told_evs [(sP 5 ⟨#[113]⟩)] (by decide) (fun x hx => by rw [List.mem_singleton.1 hx]; exact pk_q)
 rw [← htQ] at hQ1 hQ2
 obtain ⟨kQ, hkQ⟩ := hQ1.rounds
 have HTQ := Lib.hid hkQ
 have HQ2 := Lib.hid hQ2
 have HTQE := Lib.hid htQ
 clear hQ1 hQ2 hkQ htQ
 have H9a := Lib.hid ((HD.out.block _ (blk_lt HG9.out)).trans HG9.out)
 go_upto_region 18 with (first
  | (refine wpList_load_mid rfl 55 (.tmp 9) rfl G9 0 rfl (#[.string ⟨#[102]⟩, .int .i64 2, .int .i64 2, .int .i64 5, .int .i64 0, .int .i64 0, .int .i64 0, .int .i64 0, .string ⟨#[113]⟩, .int .i64 0, .slice none 0 0] : Array Value).toList _ (rangeAt_blk H9a.out) Try.underlying55 rfl (inf11 rfl) ?_)
  | (go_at_call 21; refine (told_q kQ tQ HTQ.out wz).mono ?_; rintro e WF ⟨rfl, hb0⟩; have hb := (below_alloc (Below.refl wz.heap.size wz) (.cells #[.string ⟨#[102]⟩, .int .i64 2, .int .i64 2, .int .i64 5, .int .i64 0, .int .i64 0, .int .i64 0, .int .i64 0, .string ⟨#[113]⟩, .int .i64 0, .slice none 0 0] 55 (0, 0))).trans (hb0.mono (below_alloc (Below.refl wz.heap.size wz) (.cells #[.string ⟨#[102]⟩, .int .i64 2, .int .i64 2, .int .i64 5, .int .i64 0, .int .i64 0, .int .i64 0, .int .i64 0, .string ⟨#[113]⟩, .int .i64 0, .slice none 0 0] 55 (0, 0))).size); have n_ := Lib.hid (HD.out.trans (hb.mono HD.out.size)); clear HD; have HD := n_; clear n_; have n_ := Lib.hid (HS.out.below hb); clear HS; have HS := n_; clear n_; clear hb hb0)
  | (go_at_call 33; refine (Take_told HS.out (by decide) (by decide) tQ [(sP 5 ⟨#[113]⟩)] HQ2.out (by simp) (fun x hx => by rw [List.mem_singleton.1 hx]; exact pk_q) 1 3 rfl).mono ?_; rintro e WG ⟨rfl, ho, hs⟩; rw [keepAll_q] at hs; have n_ := Lib.hid (Only.bel HD.out ho HGE.out.1 HGE.out.2); clear HD; have HD := n_; clear n_; clear HS; have HS := Lib.hid hs; clear ho hs))
 clear H9a
 go_upto_region 19 with (go_at_call 33; refine (Take_asked HS.out (by decide) (by decide) (by simp) aT fB 2 [K5] HE2.out (by decide) HE3.out 1 3 rfl).mono ?_; rintro e WH ⟨m17, rfl, hm, hc, ho, hs⟩; rw [askL_q, ← HTQE.out] at hc; have HM17 := Lib.hid hc; have n_ := Lib.hid (Only.bel HD.out ho HGE.out.1 HGE.out.2); clear HD; have HD := n_; clear n_; clear HS; have HS := Lib.hid hs; clear hm hc ho hs)
 have HS2 := Lib.hid (HS.out.below (below_drew (Below.refl WH.heap.size WH)))
 have HD2 := Lib.hid HD.out.drew
 have HM17d := Lib.hid (show WH.drew.heap[m17]? = _ from HM17.out)
 have H9a := Lib.hid ((HD2.out.block _ (blk_lt HG9.out)).trans HG9.out)
 clear HS HD HM17 HTQE
 have m0 := ck HM17d.out 2 _ rfl
 have lm := blk_lt HM17d.out
 have l9 := blk_lt H9a.out
 have x0 := ck H9a.out 0 _ rfl
 have x1 := ck H9a.out 1 _ rfl
 have x2 := ck H9a.out 2 _ rfl
 have x3 := ck H9a.out 3 _ rfl
 have x4 := ck H9a.out 4 _ rfl
 have x5 := ck H9a.out 5 _ rfl
 have x6 := ck H9a.out 6 _ rfl
 have x7 := ck H9a.out 7 _ rfl
 have x8 := ck H9a.out 8 _ rfl
 have x9 := ck H9a.out 9 _ rfl
 have x10 := ck H9a.out 10 _ rfl
 refine start_ (n := 24) (S := fun w' => w'.cell? ⟨m17, 2, none⟩ = some (.string tQ) ∧ w'.cell? ⟨G9, 0, none⟩ = some (.string ⟨#[102]⟩) ∧ w'.cell? ⟨G9, 1, none⟩ = some (.int .i64 2) ∧ w'.cell? ⟨G9, 2, none⟩ = some (.int .i64 2) ∧ w'.cell? ⟨G9, 3, none⟩ = some (.int .i64 5) ∧ w'.cell? ⟨G9, 4, none⟩ = some (.int .i64 0) ∧ w'.cell? ⟨G9, 5, none⟩ = some (.int .i64 0) ∧ w'.cell? ⟨G9, 6, none⟩ = some (.int .i64 0) ∧ w'.cell? ⟨G9, 7, none⟩ = some (.int .i64 0) ∧ w'.cell? ⟨G9, 8, none⟩ = some (.string ⟨#[113]⟩) ∧ w'.cell? ⟨G9, 9, none⟩ = some (.int .i64 0) ∧ w'.cell? ⟨G9, 10, none⟩ = some (.slice none 0 0)) (ds := []) #[false, false, false, false, false, false, false, false, false, false, false, false, false, false, false, false, false, false, false, false, false, false, false, false] (by kernel_rfl) rfl rfl ⟨m0, x0, x1, x2, x3, x4, x5, x6, x7, x8, x9, x10⟩ (fun hHeld => ?_)
 generalize WH.drew = wd at HS2 HD2 HM17d H9a m0 x0 x1 x2 x3 x4 x5 x6 x7 x8 x9 x10 lm l9 hHeld ⊢; have HX := Lib.hid (Below.refl wd.heap.size wd)
 refine pA 0 (some 131) rfl rfl zaz0 zaz1 ?_
 refine pA 1 (some 132) rfl rfl zaz0 zaz1 ?_
 refine pA 2 (some 133) rfl rfl zaz0 zaz1 ?_
 refine pA 3 (some 134) rfl rfl zaz0 zaz1 ?_
 refine pA 4 (some 135) rfl rfl zaz0 zaz1 ?_
 refine oA 5 (some 136) rfl rfl (fun K hK => ?_)
 refine goes_ Try.func35 (by kernel_rfl) rfl #[.pointer (some ⟨g, 0, none⟩)] (by rfl) rfl rfl zaz3 ?_
 with_reducible refine (many1 (HS2.out.below HX.out)).mono ?_
 rintro e wx ⟨rfl, hbx⟩
 refine ⟨_, rfl, ?_⟩
 have n_ := Lib.hid (HX.out.trans (hbx.mono HX.out.size)); clear HX; have HX := n_; clear n_
 refine hK.out _ _ ⟨(HX.out.cell lm).trans m0, (HX.out.cell l9).trans x0, (HX.out.cell l9).trans x1, (HX.out.cell l9).trans x2, (HX.out.cell l9).trans x3, (HX.out.cell l9).trans x4, (HX.out.cell l9).trans x5, (HX.out.cell l9).trans x6, (HX.out.cell l9).trans x7, (HX.out.cell l9).trans x8, (HX.out.cell l9).trans x9, (HX.out.cell l9).trans x10⟩ (fun hHeld => norm_ zaz2 ?_)
 clear hK K
 refine pA 6 (some 137) rfl rfl zaz0 zaz1 ?_
 refine pA 7 (some 138) rfl rfl zaz0 zaz1 ?_
 refine pA 8 (some 139) rfl rfl zaz0 zaz1 ?_
 refine pA 9 (some 140) rfl rfl zaz0 zaz1 ?_
 refine pA 10 (some 141) rfl rfl zaz0 zaz1 ?_
 refine pA 11 (some 142) rfl rfl zaz0 zaz1 ?_
 refine pA 12 (some 143) rfl rfl zaz0 zaz1 ?_
 refine pA 13 (some 144) rfl rfl zaz0 zaz1 ?_
 refine pA 14 (some 145) rfl rfl zaz0 zaz1 ?_
 refine pA 15 (some 146) rfl rfl zaz0 zaz1 ?_
 refine pA 16 (some 147) rfl rfl zaz0 zaz1 ?_
 refine tA 17 (some 148) rfl rfl zaz6 hHeld zaz1 ?_
 refine tA 18 (some 149) rfl rfl zaz6 hHeld zaz1 ?_
 refine oA 19 (some 150) rfl rfl (fun K hK => ?_)
 refine value_ (w1 := ?_) (v := ?_) (by rfl) rfl ?_ ?_
 rotate_left 2
 · go_simp
   constructor
   · rfl
   · rfl
 have ha := below_alloc (Below.refl wx.heap.size wx) (.cells #[.string ⟨#[102]⟩, .int .i64 2, .int .i64 2, .int .i64 5, .int .i64 0, .int .i64 0, .int .i64 0, .int .i64 0, .string ⟨#[113]⟩, .int .i64 0, .slice none 0 0] 55 (0, 0))
 have n_ := Lib.hid (HX.out.trans (ha.mono HX.out.size)); clear HX; have HX := n_; clear n_
 clear ha
 refine hK.out _ _ ⟨(HX.out.cell lm).trans m0, (HX.out.cell l9).trans x0, (HX.out.cell l9).trans x1, (HX.out.cell l9).trans x2, (HX.out.cell l9).trans x3, (HX.out.cell l9).trans x4, (HX.out.cell l9).trans x5, (HX.out.cell l9).trans x6, (HX.out.cell l9).trans x7, (HX.out.cell l9).trans x8, (HX.out.cell l9).trans x9, (HX.out.cell l9).trans x10⟩ (fun hHeld => norm_ zaz2 ?_)
 clear hK K
 refine oA 20 (some 151) rfl rfl (fun K hK => ?_)
 refine goes_ Try.func21 (by kernel_rfl) rfl #[.slice (some ⟨wx.heap.size, 0, none⟩) 1 1] (by rfl) rfl rfl zaz3 ?_
 with_reducible refine (told_q kQ tQ HTQ.out wx).mono ?_
 rintro e wy ⟨rfl, hby⟩
 refine ⟨_, rfl, ?_⟩
 have n_ := Lib.hid (HX.out.trans (hby.mono HX.out.size)); clear HX; have HX := n_; clear n_
 refine hK.out _ _ ⟨(HX.out.cell lm).trans m0, (HX.out.cell l9).trans x0, (HX.out.cell l9).trans x1, (HX.out.cell l9).trans x2, (HX.out.cell l9).trans x3, (HX.out.cell l9).trans x4, (HX.out.cell l9).trans x5, (HX.out.cell l9).trans x6, (HX.out.cell l9).trans x7, (HX.out.cell l9).trans x8, (HX.out.cell l9).trans x9, (HX.out.cell l9).trans x10⟩ (fun hHeld => norm_ zaz2 ?_)
 clear hK K
 refine pA 21 (some 152) rfl rfl zaz0 zaz1 ?_
 refine pA 22 (some 153) rfl rfl zaz0 zaz1 ?_
 refine pA 23 (some 18) rfl rfl zaz0 zaz1 ?_
 refine done_ (by kernel_rfl) ?_
 clear x0 x1 x2 x3 x4 x5 x6 x7 x8 x9 x10 m0 lm l9 hHeld HM17d H9a
 have HD := Lib.hid (HD2.out.trans (HX.out.mono HD2.out.size))
 clear HD2 HS2 HX
 obtain ⟨kE, hkE⟩ := (Encode_ev (sP 5 ⟨#[112]⟩) pk_p.ok).rounds
 obtain ⟨kF, hkF⟩ := (Encode_ev (sP 6 ⟨#[112]⟩) pk_o.ok).rounds
 have HEp := Lib.hid (fun W => enc_s 5 ⟨#[112]⟩ kE hkE W)
 have HEo := Lib.hid (fun W => enc_s 6 ⟨#[112]⟩ kF hkF W)
 have hsz := small_ge
 unfold szP at hsz
 obtain ⟨eP, heP⟩ : ∃ x, x = EncB (sP 5 ⟨#[112]⟩) := ⟨_, rfl⟩
 obtain ⟨eO, heO⟩ : ∃ x, x = EncB (sP 6 ⟨#[112]⟩) := ⟨_, rfl⟩
 rw [← heP] at HEp
 rw [← heO] at HEo
 rw [← heP, ← heO] at hsz
 obtain ⟨bb, hbb⟩ : ∃ x, x = (eP.size : Int) + (eO.size : Int) - 1 := ⟨_, rfl⟩
 have HBB := Lib.hid (show bb = szP (sP 5 ⟨#[112]⟩) + szP (sP 6 ⟨#[112]⟩) - 1 from by unfold szP; rw [hbb, heP, heO])
 have HBN := Lib.hid (show 0 < bb ∧ bb ≤ 1099511627776 from by omega)
 have e20 : wrap64 ((eP.size : Int) + (eO.size : Int)) = (eP.size : Int) + (eO.size : Int) := rl64 (by omega) (by omega)
 have e21 : wrap64 ((eP.size : Int) + (eO.size : Int) - 1) = bb := by rw [hbb]; exact rl64 (by omega) (by omega)
 have i20 : IntKind.i64.wrap ((eP.size : Int) + (eO.size : Int)) = (eP.size : Int) + (eO.size : Int) := (i64_w _).trans e20
 have i21 : IntKind.i64.wrap ((eP.size : Int) + (eO.size : Int) - 1) = bb := (i64_w _).trans e21
 clear hkE hkF hsz heP heO hbb
 have HD2 := Lib.hid HD.out.drew
 have H8d := Lib.hid ((HD2.out.block _ (blk_lt HG8.out)).trans HG8.out)
 have H10d := Lib.hid ((HD2.out.block _ (blk_lt HG10.out)).trans HG10.out)
 clear HD
 have l8 := blk_lt H8d.out
 have l10 := blk_lt H10d.out
 have x0 := ck H8d.out 0 _ rfl
 have y0 := ck H10d.out 0 _ rfl
 have x1 := ck H8d.out 1 _ rfl
 have y1 := ck H10d.out 1 _ rfl
 have x2 := ck H8d.out 2 _ rfl
 have y2 := ck H10d.out 2 _ rfl
 have x3 := ck H8d.out 3 _ rfl
 have y3 := ck H10d.out 3 _ rfl
 have x4 := ck H8d.out 4 _ rfl
 have y4 := ck H10d.out 4 _ rfl
 have x5 := ck H8d.out 5 _ rfl
 have y5 := ck H10d.out 5 _ rfl
 have x6 := ck H8d.out 6 _ rfl
 have y6 := ck H10d.out 6 _ rfl
 have x7 := ck H8d.out 7 _ rfl
 have y7 := ck H10d.out 7 _ rfl
 have x8 := ck H8d.out 8 _ rfl
 have y8 := ck H10d.out 8 _ rfl
 have x9 := ck H8d.out 9 _ rfl
 have y9 := ck H10d.out 9 _ rfl
 have x10 := ck H8d.out 10 _ rfl
 have y10 := ck H10d.out 10 _ rfl
 go_upto_region 20 with fail
 refine start_ (n := 10) (S := fun w' => w'.cell? ⟨G8, 0, none⟩ = some (.string ⟨#[102]⟩) ∧ w'.cell? ⟨G8, 1, none⟩ = some (.int .i64 2) ∧ w'.cell? ⟨G8, 2, none⟩ = some (.int .i64 2) ∧ w'.cell? ⟨G8, 3, none⟩ = some (.int .i64 5) ∧ w'.cell? ⟨G8, 4, none⟩ = some (.int .i64 0) ∧ w'.cell? ⟨G8, 5, none⟩ = some (.int .i64 0) ∧ w'.cell? ⟨G8, 6, none⟩ = some (.int .i64 0) ∧ w'.cell? ⟨G8, 7, none⟩ = some (.int .i64 0) ∧ w'.cell? ⟨G8, 8, none⟩ = some (.string ⟨#[112]⟩) ∧ w'.cell? ⟨G8, 9, none⟩ = some (.int .i64 0) ∧ w'.cell? ⟨G8, 10, none⟩ = some (.slice none 0 0) ∧ w'.cell? ⟨G10, 0, none⟩ = some (.string ⟨#[102]⟩) ∧ w'.cell? ⟨G10, 1, none⟩ = some (.int .i64 2) ∧ w'.cell? ⟨G10, 2, none⟩ = some (.int .i64 2) ∧ w'.cell? ⟨G10, 3, none⟩ = some (.int .i64 6) ∧ w'.cell? ⟨G10, 4, none⟩ = some (.int .i64 0) ∧ w'.cell? ⟨G10, 5, none⟩ = some (.int .i64 0) ∧ w'.cell? ⟨G10, 6, none⟩ = some (.int .i64 0) ∧ w'.cell? ⟨G10, 7, none⟩ = some (.int .i64 0) ∧ w'.cell? ⟨G10, 8, none⟩ = some (.string ⟨#[112]⟩) ∧ w'.cell? ⟨G10, 9, none⟩ = some (.int .i64 0) ∧ w'.cell? ⟨G10, 10, none⟩ = some (.slice none 0 0)) (ds := []) #[false, false, false, false, false, false, false, false, false, false] (by kernel_rfl) rfl rfl ⟨x0, x1, x2, x3, x4, x5, x6, x7, x8, x9, x10, y0, y1, y2, y3, y4, y5, y6, y7, y8, y9, y10⟩ (fun hHeld => ?_)
 generalize wy.drew = wd at HD2 H8d H10d x0 x1 x2 x3 x4 x5 x6 x7 x8 x9 x10 y0 y1 y2 y3 y4 y5 y6 y7 y8 y9 y10 l8 l10 hHeld ⊢; have HX := Lib.hid (Below.refl wd.heap.size wd)
 refine tA 0 (some 154) rfl rfl zaz5 hHeld zaz1 ?_
 refine tA 3 (some 157) rfl rfl zaz5 hHeld zaz1 ?_
 refine oA 1 (some 155) rfl rfl (fun K hK => ?_)
 refine goes_ Try.func37 (by kernel_rfl) rfl #[.agg #[.string ⟨#[102]⟩, .int .i64 2, .int .i64 2, .int .i64 5, .int .i64 0, .int .i64 0, .int .i64 0, .int .i64 0, .string ⟨#[112]⟩, .int .i64 0, .slice none 0 0]] (by rfl) rfl rfl zaz3 ?_
 with_reducible refine (HEp.out _).mono ?_
 rintro e wx2 ⟨rfl, hbx⟩
 refine ⟨_, rfl, ?_⟩
 have n_ := Lib.hid (HX.out.trans (hbx.mono HX.out.size)); clear HX; have HX := n_; clear n_
 refine hK.out _ _ ⟨(HX.out.cell l8).trans x0, (HX.out.cell l8).trans x1, (HX.out.cell l8).trans x2, (HX.out.cell l8).trans x3, (HX.out.cell l8).trans x4, (HX.out.cell l8).trans x5, (HX.out.cell l8).trans x6, (HX.out.cell l8).trans x7, (HX.out.cell l8).trans x8, (HX.out.cell l8).trans x9, (HX.out.cell l8).trans x10, (HX.out.cell l10).trans y0, (HX.out.cell l10).trans y1, (HX.out.cell l10).trans y2, (HX.out.cell l10).trans y3, (HX.out.cell l10).trans y4, (HX.out.cell l10).trans y5, (HX.out.cell l10).trans y6, (HX.out.cell l10).trans y7, (HX.out.cell l10).trans y8, (HX.out.cell l10).trans y9, (HX.out.cell l10).trans y10⟩ (fun hHeld => norm_ zaz2 ?_)
 clear hK K
 refine pA 2 (some 156) rfl rfl zaz0 zaz1 ?_
 refine oA 4 (some 158) rfl rfl (fun K hK => ?_)
 refine goes_ Try.func37 (by kernel_rfl) rfl #[.agg #[.string ⟨#[102]⟩, .int .i64 2, .int .i64 2, .int .i64 6, .int .i64 0, .int .i64 0, .int .i64 0, .int .i64 0, .string ⟨#[112]⟩, .int .i64 0, .slice none 0 0]] (by rfl) rfl rfl zaz3 ?_
 with_reducible refine (HEo.out _).mono ?_
 rintro e wy2 ⟨rfl, hby⟩
 refine ⟨_, rfl, ?_⟩
 have n_ := Lib.hid (HX.out.trans (hby.mono HX.out.size)); clear HX; have HX := n_; clear n_
 refine hK.out _ _ ⟨(HX.out.cell l8).trans x0, (HX.out.cell l8).trans x1, (HX.out.cell l8).trans x2, (HX.out.cell l8).trans x3, (HX.out.cell l8).trans x4, (HX.out.cell l8).trans x5, (HX.out.cell l8).trans x6, (HX.out.cell l8).trans x7, (HX.out.cell l8).trans x8, (HX.out.cell l8).trans x9, (HX.out.cell l8).trans x10, (HX.out.cell l10).trans y0, (HX.out.cell l10).trans y1, (HX.out.cell l10).trans y2, (HX.out.cell l10).trans y3, (HX.out.cell l10).trans y4, (HX.out.cell l10).trans y5, (HX.out.cell l10).trans y6, (HX.out.cell l10).trans y7, (HX.out.cell l10).trans y8, (HX.out.cell l10).trans y9, (HX.out.cell l10).trans y10⟩ (fun hHeld => norm_ zaz2 ?_)
 clear hK K
 refine pA 5 (some 159) rfl rfl zaz0 zaz1 ?_
 refine pA 6 (some 160) rfl rfl zaz0 zaz1 ?_
 refine pA 7 (some 161) rfl rfl zaz0 zaz1 ?_
 refine oA 8 (some 162) rfl rfl (fun K hK => ?_)
 refine goes_ Try.func27 (by kernel_rfl) rfl #[.int .i64 3, .int .i64 bb] (by rfl) rfl rfl zaz3 ?_
 with_reducible refine (New_c 3 bb HBN.out.1 _).mono ?_
 rintro e wv ⟨g2, b2, rfl, hbv, hg2, hb2, hs2⟩
 refine ⟨_, rfl, ?_⟩
 have HGE2 := Lib.hid (show wy2.heap.size ≤ g2 ∧ wy2.heap.size ≤ b2 from ⟨hg2, hb2⟩)
 have HS2 := Lib.hid hs2
 have HV := Lib.hid hbv
 refine hK.out _ _ ⟨(HV.out.cell (Nat.lt_of_lt_of_le l8 HX.out.size)).trans ((HX.out.cell l8).trans x0), (HV.out.cell (Nat.lt_of_lt_of_le l8 HX.out.size)).trans ((HX.out.cell l8).trans x1), (HV.out.cell (Nat.lt_of_lt_of_le l8 HX.out.size)).trans ((HX.out.cell l8).trans x2), (HV.out.cell (Nat.lt_of_lt_of_le l8 HX.out.size)).trans ((HX.out.cell l8).trans x3), (HV.out.cell (Nat.lt_of_lt_of_le l8 HX.out.size)).trans ((HX.out.cell l8).trans x4), (HV.out.cell (Nat.lt_of_lt_of_le l8 HX.out.size)).trans ((HX.out.cell l8).trans x5), (HV.out.cell (Nat.lt_of_lt_of_le l8 HX.out.size)).trans ((HX.out.cell l8).trans x6), (HV.out.cell (Nat.lt_of_lt_of_le l8 HX.out.size)).trans ((HX.out.cell l8).trans x7), (HV.out.cell (Nat.lt_of_lt_of_le l8 HX.out.size)).trans ((HX.out.cell l8).trans x8), (HV.out.cell (Nat.lt_of_lt_of_le l8 HX.out.size)).trans ((HX.out.cell l8).trans x9), (HV.out.cell (Nat.lt_of_lt_of_le l8 HX.out.size)).trans ((HX.out.cell l8).trans x10), (HV.out.cell (Nat.lt_of_lt_of_le l10 HX.out.size)).trans ((HX.out.cell l10).trans y0), (HV.out.cell (Nat.lt_of_lt_of_le l10 HX.out.size)).trans ((HX.out.cell l10).trans y1), (HV.out.cell (Nat.lt_of_lt_of_le l10 HX.out.size)).trans ((HX.out.cell l10).trans y2), (HV.out.cell (Nat.lt_of_lt_of_le l10 HX.out.size)).trans ((HX.out.cell l10).trans y3), (HV.out.cell (Nat.lt_of_lt_of_le l10 HX.out.size)).trans ((HX.out.cell l10).trans y4), (HV.out.cell (Nat.lt_of_lt_of_le l10 HX.out.size)).trans ((HX.out.cell l10).trans y5), (HV.out.cell (Nat.lt_of_lt_of_le l10 HX.out.size)).trans ((HX.out.cell l10).trans y6), (HV.out.cell (Nat.lt_of_lt_of_le l10 HX.out.size)).trans ((HX.out.cell l10).trans y7), (HV.out.cell (Nat.lt_of_lt_of_le l10 HX.out.size)).trans ((HX.out.cell l10).trans y8), (HV.out.cell (Nat.lt_of_lt_of_le l10 HX.out.size)).trans ((HX.out.cell l10).trans y9), (HV.out.cell (Nat.lt_of_lt_of_le l10 HX.out.size)).trans ((HX.out.cell l10).trans y10)⟩ (fun hHeld => norm_ zaz2 ?_)
 clear hK K
 refine pA 9 (some 19) rfl rfl zaz0 zaz1 ?_
 refine done_ (by kernel_rfl) ?_
 clear x0 x1 x2 x3 x4 x5 x6 x7 x8 x9 x10 y0 y1 y2 y3 y4 y5 y6 y7 y8 y9 y10 l8 l10 hHeld e20 e21 i20 i21 H8d H10d HEp HEo
 have HD := Lib.hid ((HD2.out.trans (HX.out.mono HD2.out.size)).trans (HV.out.mono (Nat.le_trans HD2.out.size HX.out.size)))
 have HGE3 := Lib.hid (show w9.heap.size ≤ g2 ∧ w9.heap.size ≤ b2 from ⟨Nat.le_trans (Nat.le_trans HD2.out.size HX.out.size) HGE2.out.1, Nat.le_trans (Nat.le_trans HD2.out.size HX.out.size) HGE2.out.2⟩)
 have HS := HS2
 clear HS2 HD2 HX HV HGE2
 have H8a := Lib.hid ((HD.out.block _ (blk_lt HG8.out)).trans HG8.out)
 go_upto_region 24 with (first
  | (refine wpList_load_mid rfl 55 (.tmp 8) rfl G8 0 rfl (#[.string ⟨#[102]⟩, .int .i64 2, .int .i64 2, .int .i64 5, .int .i64 0, .int .i64 0, .int .i64 0, .int .i64 0, .string ⟨#[112]⟩, .int .i64 0, .slice none 0 0] : Array Value).toList _ (rangeAt_blk H8a.out) Try.underlying55 rfl (inf11 rfl) ?_)
  | (go_at_call 31; refine (keep_s 5 ⟨#[112]⟩ HS.out HBN.out.1 HBN.out.2 (by decide) pk_p (keep3 bb HBB.out)).mono ?_; rintro e WK ⟨rfl, ho, hs⟩; have n_ := Lib.hid (Only.bel HD.out ho HGE3.out.1 HGE3.out.2); clear HD; have HD := n_; clear n_; clear HS; have HS := Lib.hid hs; clear ho hs))
 clear H8a
 have H10a := Lib.hid ((HD.out.block _ (blk_lt HG10.out)).trans HG10.out)
 go_upto_region 25 with (first
  | (refine wpList_load_mid rfl 55 (.tmp 10) rfl G10 0 rfl (#[.string ⟨#[102]⟩, .int .i64 2, .int .i64 2, .int .i64 6, .int .i64 0, .int .i64 0, .int .i64 0, .int .i64 0, .string ⟨#[112]⟩, .int .i64 0, .slice none 0 0] : Array Value).toList _ (rangeAt_blk H10a.out) Try.underlying55 rfl (inf11 rfl) ?_)
  | (go_at_call 31; refine (keep_s 6 ⟨#[112]⟩ HS.out HBN.out.1 HBN.out.2 (by decide) pk_o (keep4 bb HBB.out)).mono ?_; rintro e WL ⟨rfl, ho, hs⟩; have n_ := Lib.hid (Only.bel HD.out ho HGE3.out.1 HGE3.out.2); clear HD; have HD := n_; clear n_; clear HS; have HS := Lib.hid hs; clear ho hs))
 clear H10a
 have H8a := Lib.hid ((HD.out.block _ (blk_lt HG8.out)).trans HG8.out)
 have H10a := Lib.hid ((HD.out.block _ (blk_lt HG10.out)).trans HG10.out)
 obtain ⟨tB, htB⟩ : ∃ x, x = ToldB [(sP 5 ⟨#[112]⟩), (sP 6 ⟨#[112]⟩)] := ⟨_, rfl⟩
 obtain ⟨hB1, hB2⟩ := told_evs [(sP 5 ⟨#[112]⟩), (sP 6 ⟨#[112]⟩)] (by decide) (fun x hx => by
  simp only [List.mem_cons, List.not_mem_nil, or_false] at hx
  rcases hx with rfl | rfl
  · exact pk_p
  · exact pk_o)
 rw [← htB] at hB1 hB2
 obtain ⟨kG, hkG⟩ := hB1.rounds
 obtain ⟨kH, hkH⟩ := hB2.rounds
 have HTB := Lib.hid hkG
 have HTT := Lib.hid hkH
 clear hB1 hB2 hkG hkH htB
 go_upto_region 26 with (first
  | (refine wpList_load_mid rfl 55 (.tmp 8) rfl G8 0 rfl (#[.string ⟨#[102]⟩, .int .i64 2, .int .i64 2, .int .i64 5, .int .i64 0, .int .i64 0, .int .i64 0, .int .i64 0, .string ⟨#[112]⟩, .int .i64 0, .slice none 0 0] : Array Value).toList _ (rangeAt_blk H8a.out) Try.underlying55 rfl (inf11 rfl) ?_)
  | (refine wpList_load_mid rfl 55 (.tmp 10) rfl G10 0 rfl (#[.string ⟨#[102]⟩, .int .i64 2, .int .i64 2, .int .i64 6, .int .i64 0, .int .i64 0, .int .i64 0, .int .i64 0, .string ⟨#[112]⟩, .int .i64 0, .slice none 0 0] : Array Value).toList _ (rangeAt_blk H10a.out) Try.underlying55 rfl (inf11 rfl) ?_)
  | (go_at_call 21; refine (told_po kG tB HTB.out WL).mono ?_; rintro e WM ⟨rfl, hb0⟩; have hb := (below_alloc (Below.refl WL.heap.size WL) (.cells #[.string ⟨#[102]⟩, .int .i64 2, .int .i64 2, .int .i64 5, .int .i64 0, .int .i64 0, .int .i64 0, .int .i64 0, .string ⟨#[112]⟩, .int .i64 0, .slice none 0 0, .string ⟨#[102]⟩, .int .i64 2, .int .i64 2, .int .i64 6, .int .i64 0, .int .i64 0, .int .i64 0, .int .i64 0, .string ⟨#[112]⟩, .int .i64 0, .slice none 0 0] 55 (0, 0))).trans (hb0.mono (below_alloc (Below.refl WL.heap.size WL) (.cells #[.string ⟨#[102]⟩, .int .i64 2, .int .i64 2, .int .i64 5, .int .i64 0, .int .i64 0, .int .i64 0, .int .i64 0, .string ⟨#[112]⟩, .int .i64 0, .slice none 0 0, .string ⟨#[102]⟩, .int .i64 2, .int .i64 2, .int .i64 6, .int .i64 0, .int .i64 0, .int .i64 0, .int .i64 0, .string ⟨#[112]⟩, .int .i64 0, .slice none 0 0] 55 (0, 0))).size); have n_ := Lib.hid (HD.out.trans (hb.mono HD.out.size)); clear HD; have HD := n_; clear n_; have n_ := Lib.hid (HS.out.below hb); clear HS; have HS := n_; clear n_; clear hb hb0)
  | (go_at_call 22; refine (relay_Tell.calls kH tB [(sP 5 ⟨#[112]⟩), (sP 6 ⟨#[112]⟩)] true _ HTT.out).mono ?_; rintro e WN ⟨v22, rfl, hr, hb⟩; have HR22 := Lib.hid (Kd.S_R hr); obtain ⟨A22, c22, rfl⟩ := Kd.R_slice (Kd.S_R hr); have n_ := Lib.hid (HD.out.trans (hb.mono HD.out.size)); clear HD; have HD := n_; clear n_; have n_ := Lib.hid (HS.out.below hb); clear HS; have HS := n_; clear n_; clear hr hb))
 clear H8a H10a
 obtain ⟨g22, rfl⟩ := R_some HR22.out (by simp)
 have HCC := Lib.hid (Kd.R_reads' HR22.out).2.2
 have hlen2 : ([(sP 5 ⟨#[112]⟩), (sP 6 ⟨#[112]⟩)] : List S55).length = 2 := rfl
 go_wp2_with (first
  | (go_at_call 35; refine (many1 HS.out).mono ?_; rintro e WP ⟨rfl, hb⟩; have HD5 := Lib.hid (HD.out.trans (hb.mono HD.out.size)); have HC5 := Lib.hid (Kd.C_below HCC.out hb); have H8z := Lib.hid ((HD5.out.block _ (blk_lt HG8.out)).trans HG8.out); have H10z := Lib.hid ((HD5.out.block _ (blk_lt HG10.out)).trans HG10.out); have x0 := ck H8z.out 0 _ rfl; have y0 := ck H10z.out 0 _ rfl; have x1 := ck H8z.out 1 _ rfl; have y1 := ck H10z.out 1 _ rfl; have x2 := ck H8z.out 2 _ rfl; have y2 := ck H10z.out 2 _ rfl; have x3 := ck H8z.out 3 _ rfl; have y3 := ck H10z.out 3 _ rfl; have x4 := ck H8z.out 4 _ rfl; have y4 := ck H10z.out 4 _ rfl; have x5 := ck H8z.out 5 _ rfl; have y5 := ck H10z.out 5 _ rfl; have x6 := ck H8z.out 6 _ rfl; have y6 := ck H10z.out 6 _ rfl; have x7 := ck H8z.out 7 _ rfl; have y7 := ck H10z.out 7 _ rfl; have x8 := ck H8z.out 8 _ rfl; have y8 := ck H10z.out 8 _ rfl; have x9 := ck H8z.out 9 _ rfl; have y9 := ck H10z.out 9 _ rfl; have x10 := ck H8z.out 10 _ rfl; have y10 := ck H10z.out 10 _ rfl; clear hb)
  | (go_at_call 24; refine (SamePatches_c [(sP 5 ⟨#[112]⟩), (sP 6 ⟨#[112]⟩)] [(sP 5 ⟨#[112]⟩), (sP 6 ⟨#[112]⟩)] (some ⟨g22, 0, none⟩) c22 (some ⟨WP.heap.size, 0, none⟩) 2 _ (Kd.C_below HC5.out (below_alloc (Below.refl WP.heap.size WP) _)) (fun _ => ⟨g22, rfl⟩) (C_po WP) (fun _ => ⟨WP.heap.size, rfl⟩) (by simp) (fun x hx => by
   simp only [List.mem_cons, List.not_mem_nil, or_false] at hx
   rcases hx with rfl | rfl <;> exact Nat.zero_le _)).mono ?_; rintro e WQ ⟨rfl, hb⟩; have HBq := Lib.hid hb; clear hb; simp only [(eqPs_iff [(sP 5 ⟨#[112]⟩), (sP 6 ⟨#[112]⟩)] [(sP 5 ⟨#[112]⟩), (sP 6 ⟨#[112]⟩)]).2 rfl]))
 go_ret
 exact ⟨rfl, HB.out.trans (((HD5.out.trans ((below_alloc (Below.refl WP.heap.size WP) (.cells #[.string ⟨#[102]⟩, .int .i64 2, .int .i64 2, .int .i64 5, .int .i64 0, .int .i64 0, .int .i64 0, .int .i64 0, .string ⟨#[112]⟩, .int .i64 0, .slice none 0 0, .string ⟨#[102]⟩, .int .i64 2, .int .i64 2, .int .i64 6, .int .i64 0, .int .i64 0, .int .i64 0, .int .i64 0, .string ⟨#[112]⟩, .int .i64 0, .slice none 0 0] 55 (0, 0))).mono HD5.out.size)).trans (HBq.out.mono (Nat.le_trans HD5.out.size (below_alloc (Below.refl WP.heap.size WP) (.cells #[.string ⟨#[102]⟩, .int .i64 2, .int .i64 2, .int .i64 5, .int .i64 0, .int .i64 0, .int .i64 0, .int .i64 0, .string ⟨#[112]⟩, .int .i64 0, .slice none 0 0, .string ⟨#[102]⟩, .int .i64 2, .int .i64 2, .int .i64 6, .int .i64 0, .int .i64 0, .int .i64 0, .int .i64 0, .string ⟨#[112]⟩, .int .i64 0, .slice none 0 0] 55 (0, 0))).size))).mono HB.out.size)⟩
end Go.Proofs.Ythokkeljfdfppaa.Rl
