/- Several texts of this claim, one behind the other: RnI, RnD, RnK, RnE. -/
import Derived.Test.YthokkeljfdfppaaMgX
import Derived.Test.YthokkeljfdfppaaMgN
/- A relay that is asked stays as it is. -/
set_option linter.unusedVariables false
set_option linter.unusedSimpArgs false
namespace Go.Proofs.Ythokkeljfdfppaa.Rl
open Go.RowKit Go.Proofs.YthokkeljfdfppaaW.PrintWords Go.Proofs.YthokkeljfdfppaaW.PrintLast Go.Proofs.YthokkeljfdfppaaW.PrintMore Go.Proofs.Ythokkeljfdfppaa.Pb Go.Proofs.Ythokkeljfdfppaa.Gw Go.Proofs.Ythokkeljfdfppaa.Pure Go.WideMaps Go.WideElems
open Go.ChangeShapes Go.WideShapes Go.MapKept
set_option maxHeartbeats 4000000 in
set_option maxRecDepth 100000 in
theorem told_no {w : World} (v0 : Value) (s : ByteArray) (hT : Ev (fun k => relay_Tell.f k s) noTell) (fr tw : Int) :
 Calls Try.prog 78 #[v0, .agg #[.int .i64 fr, .int .i64 tw, .string s]] w fun e w' => e = .returned (.tuple #[.slice none 0 0, .bool false]) ∧ Below w.heap.size w w' := by
 obtain ⟨k, hk⟩ := hT.rounds
 have HT := Lib.hid hk
 have HB := Lib.hid (below_alloc (Below.refl w.heap.size w) (.cells #[.int .i64 fr, .int .i64 tw, .string s] 68 (0, 0)))
 clear hk hT
 go_enter Try.func78, Try.ntmps78
 go_wp2_with (go_at_call 22; refine (relay_Tell.calls k s [] false _ HT.out).mono ?_; rintro e w1 ⟨v1, rfl, hr, hb⟩; have HB1 := Lib.hid (HB.out.trans (hb.mono HB.out.size)); obtain ⟨A1, c1, rfl⟩ := Kd.R_slice (Kd.S_R hr); clear hr hb)
 go_loopg [18] 1 (fun kq v18 w' => v18 = .int .i64 0 ∧ Below w.heap.size w w')
 case atStart => exact ⟨rfl, HB1.out⟩
 case round =>
  obtain ⟨rfl, hb⟩ := hrel
  have HB2 := Lib.hid hb
  clear hb
  go_wp2
  refine bodyPost_ret (results_tmp2 rfl _ _ _) rfl ?_
  exact ⟨rfl, HB2.out⟩
set_option maxHeartbeats 8000000 in
set_option maxRecDepth 100000 in
theorem Take_ask {w : World} {g b : Nat} {no bytes : Int} {N : Nat} {L : List S55} (h : RS w g b no bytes N L) (h0 : 0 < bytes) (hN : N ≤ 9000) (s font : ByteArray) (v : Int) (keys : List S52) (hA : Ev (fun k => relay_Asked.f k s) (font, v, keys, true)) (hkl : keys.length ≤ 1000) (hT : Ev (fun k => relay_Tell.f k s) noTell) (fr tw : Int) (he : tw = no) :
 Calls Try.prog 33 #[.pointer (some ⟨g, 0, none⟩), .agg #[.int .i64 fr, .int .i64 tw, .string s]] w fun e w' => ∃ gm, e = .returned (.slice (some ⟨gm, 0, none⟩) 1 1) ∧ w.heap.size ≤ gm ∧ w'.heap[gm]? = some (.cells #[.int .i64 no, .int .i64 fr, .string (ToldB (askL font v keys L))] 68 (0, 0)) ∧ Below w.heap.size w w' := by
 have HB := Lib.hid (below_alloc (Below.refl w.heap.size w) (.cells #[.int .i64 fr, .int .i64 tw, .string s] 68 (0, 0)))
 have HRS := Lib.hid h
 obtain ⟨clk, l0, hl⟩ := h.below HB.out
 have q1 := ck hl.rel.relay 1 _ rfl
 have q0 := ck hl.rel.relay 0 _ rfl
 have HBX := Lib.hid (blk_new w (.cells #[.int .i64 fr, .int .i64 tw, .string s] 68 (0, 0)))
 obtain ⟨b0, b1, b2⟩ := box68 HBX.out
 have e1 : (bytes == 0) = false := beq_eq_false_iff_ne.mpr (by omega)
 have e2 : (tw != no) = false := bne_eq_false_iff_eq.mpr he
 have e3 : (tw == no) = true := beq_iff_eq.mpr he
 have HT := Lib.hid hT
 have HN := Lib.hid hN
 have HA := Lib.hid hA
 have HKL := Lib.hid hkl
 clear h hl h0 hN hkl he hT hA
 go_enter Try.func33, Try.ntmps33
 go_wp2
 generalize w.alloc (.cells #[.int .i64 fr, .int .i64 tw, .string s] 68 (0, 0)) = w1 at HB HBX q1 q0 b0 b1 b2 ⊢
 go_quiet (fail)
 clear q1 q0 b0 b1 b2 e1 e2 e3
 have HB2 := Lib.hid (pw_below_drewN HB.out nq)
 have HBX2 := Lib.hid (show (w1.drewN nq).heap[w.heap.size]? = _ from HBX.out)
 generalize w1.drewN nq = w2 at HB2 HBX2 ⊢
 clear HB HBX
 go_upto_block 0 with fail
 have HB3 := Lib.hid (below_alloc HB2.out (.cells #[.func (.func 78) #[] #[], .func (.func 79) #[] #[]] 129 (0, 0)))
 have HBX3 := Lib.hid (blk_alloc HBX2.out (.cells #[.func (.func 78) #[] #[], .func (.func 79) #[] #[]] 129 (0, 0)))
 have HFN := Lib.hid (blk_new w2 (.cells #[.func (.func 78) #[] #[], .func (.func 79) #[] #[]] 129 (0, 0)))
 generalize w2.alloc (.cells #[.func (.func 78) #[] #[], .func (.func 79) #[] #[]] 129 (0, 0)) = w3 at HB3 HBX3 HFN ⊢
 go_wp2
 go_loopg [29] 2 (fun kq v29 w' => (v29 = .int .i64 0 ∧ kq = 2 ∧ w' = w3) ∨ (v29 = .int .i64 1 ∧ kq = 1 ∧ Below w3.heap.size w3 w'))
 case atStart => exact .inl ⟨rfl, rfl, rfl⟩
 case round =>
  rcases hrel with ⟨rfl, hk, rfl⟩ | ⟨rfl, hk, hb⟩
  · obtain ⟨b0, b1, b2⟩ := box68 HBX3.out
    have f0 := ck HFN.out 0 _ rfl
    have HK := Lib.hid hk
    clear hk
    go_wp2_with (go_at_call 78; refine (told_no _ s HT.out fr tw).mono ?_; rintro e w4 ⟨rfl, hb⟩; have HB4 := Lib.hid hb; clear hb)
    cases gk with
    | zero => exact absurd HK.out (by omega)
    | succ kk =>
      go_roundg kk
      case measure => omega
      case rel => exact .inr ⟨rfl, by have := HK.out; omega, HB4.out⟩
  · have hx4 := blk_below HBX3.out hb
    have hf4 := blk_below HFN.out hb
    obtain ⟨b0, b1, b2⟩ := box68 hx4
    have f1 := ck hf4 1 _ rfl
    have HBB := Lib.hid (HB3.out.trans (hb.mono HB3.out.size))
    clear hk hb hx4 hf4
    go_wp2_with (go_at_call 79; refine (asked_c (HRS.out.below HBB.out) HN.out s font v keys HA.out HKL.out fr tw).mono ?_; rintro e w5 ⟨gm, rfl, hgm, hcell, hb⟩; have HG5 := Lib.hid hgm; have HC5 := Lib.hid hcell; have HB5 := Lib.hid hb; clear hgm hcell hb)
    go_ret
    exact ⟨gm, rfl, by have h1 := HG5.out; have h2 := HBB.out.size; omega, HC5.out, HBB.out.trans (HB5.out.mono HBB.out.size)⟩
end Go.Proofs.Ythokkeljfdfppaa.Rl

/- all: a relay is asked for everything. -/
set_option linter.unusedVariables false
set_option linter.unusedSimpArgs false
namespace Go.Proofs.Ythokkeljfdfppaa.Rl
open Go.RowKit Go.Proofs.YthokkeljfdfppaaW.PrintWords Go.Proofs.YthokkeljfdfppaaW.PrintLast Go.Proofs.YthokkeljfdfppaaW.PrintMore Go.Proofs.Ythokkeljfdfppaa.Pb Go.Proofs.Ythokkeljfdfppaa.Gw Go.Proofs.Ythokkeljfdfppaa.Pure
def keys4 (n : Nat) : List S52 := [⟨1, (n : Int), 0⟩, ⟨2, (n : Int), 0⟩, ⟨3, (n : Int), 0⟩, ⟨3, (n : Int), 1⟩]
def keysTo (j : Nat) : List S52 := (List.range j).flatMap keys4
theorem keysTo_succ (j : Nat) : keysTo (j + 1) = keysTo j ++ keys4 j := by unfold keysTo; rw [List.range_succ, List.flatMap_append]; simp
theorem keysTo_len (j : Nat) : (keysTo j).length = 4 * j := by
 induction j with
 | zero => rfl
 | succ j ih => rw [keysTo_succ, List.length_append, ih]; simp [keys4]; omega
theorem keysTo_ok : ∀ k ∈ keysTo 3, KOk k := by
 intro k hk
 have h : k ∈ [(⟨1, 0, 0⟩ : S52), ⟨2, 0, 0⟩, ⟨3, 0, 0⟩, ⟨3, 0, 1⟩, ⟨1, 1, 0⟩, ⟨2, 1, 0⟩, ⟨3, 1, 0⟩, ⟨3, 1, 1⟩, ⟨1, 2, 0⟩, ⟨2, 2, 0⟩, ⟨3, 2, 0⟩, ⟨3, 2, 1⟩] := hk
 simp only [List.mem_cons, List.not_mem_nil, or_false] at h
 rcases h with rfl | rfl | rfl | rfl | rfl | rfl | rfl | rfl | rfl | rfl | rfl | rfl <;> exact ⟨⟨by decide, by decide⟩, ⟨by decide, by decide⟩, ⟨by decide, by decide⟩⟩
def allAt (L : List S55) (i : Nat) : List S55 := askL (fG (i % 2)) (1 + ((i / 2 : Nat) : Int)) (keysTo 3) L
def allTo (L : List S55) (i : Nat) : List S55 := (List.range i).flatMap (allAt L)
theorem allTo_succ (L : List S55) (i : Nat) : allTo L (i + 1) = allTo L i ++ allAt L i := by unfold allTo; rw [List.range_succ, List.flatMap_append]; simp
theorem fG_size (d : Nat) : (fG d).size = 1 := by unfold fG; split <;> rfl
theorem ask_small (f : ByteArray) (v : Int) (ks : List S52) (hf : f.size ≤ 20) (hv : Pure.I64 v) (hl : ks.length ≤ 20) (h : ∀ k ∈ ks, KOk k) : (AskB f v ks).size ≤ 700 := by
 have h1 := join_size KeyB 30 ks (HeadB f v (ks.length : Nat)) (fun k hk => KeyB_size (h k hk))
 have h2 : (HeadB f v ((ks.length : Nat) : Int)).size ≤ 100 := by
  have a1 := TextB_size askW (by decide)
  have a2 := TextB_size f (by omega)
  have a3 := IntB_small v hv.1 hv.2
  have a4 := IntB_small ((ks.length : Nat) : Int) (by omega) (by omega)
  have b1 : askW.size = 3 := rfl
  unfold HeadB
  simp only [ByteArray.size_append]
  omega
 unfold AskB
 omega
theorem told_small (l : List S55) (hl : l.length ≤ 12) (h : ∀ p ∈ l, MadeP p) : (ToldB l).size ≤ 4000 := by
 have h1 := TextB_size toldW (by decide)
 have h2 : toldW.size = 4 := rfl
 have h3 := IntB_small (((l.map EncB).length : Nat) : Int) (by rw [List.length_map]; omega) (by rw [List.length_map]; omega)
 have h4 : (TextsB (l.map EncB)).size ≤ 3730 := by
  have hj := join_size TextB 310 (l.map EncB) (IntB (((l.map EncB).length : Nat) : Int)) (fun t ht => by
   obtain ⟨p, hp, rfl⟩ := List.mem_map.1 ht
   have a0 := (made_enc (h p hp)).2.1
   have a1 := TextB_size (EncB p) (by omega)
   omega)
  have hl2 : (l.map EncB).length = l.length := List.length_map ..
  show (join TextB (l.map EncB) (IntB (((l.map EncB).length : Nat) : Int))).size ≤ 3730
  omega
 unfold ToldB
 rw [ByteArray.size_append]
 omega
theorem refTell_ev (l : List S55) (hl : l.length ≤ 12) (h : ∀ p ∈ l, MadeP p) : Ev (fun k => abugidaref35_Tell.f k (ToldB l)) (l, true) := by
 obtain ⟨r, h1, h2, -⟩ := Tell_same (ToldB l) (by have := told_small l hl h; omega)
 have h3 := (told_evs l (by omega) (fun p hp => made_pk (h p hp))).2
 rw [Ev.unique h1 h3] at h2
 exact h2
theorem ask_all (i : Nat) (hi : i < 4) : Ev (fun k => abugidaref35_Ask.f k (fG (i % 2)) (1 + ((i / 2 : Nat) : Int)) (keysTo 3)) (AskB (fG (i % 2)) (1 + ((i / 2 : Nat) : Int)) (keysTo 3)) ∧ Ev (fun k => relay_Asked.f k (AskB (fG (i % 2)) (1 + ((i / 2 : Nat) : Int)) (keysTo 3))) (fG (i % 2), 1 + ((i / 2 : Nat) : Int), keysTo 3, true) ∧ Ev (fun k => relay_Tell.f k (AskB (fG (i % 2)) (1 + ((i / 2 : Nat) : Int)) (keysTo 3))) noTell := by
 have h1 := fG_size (i % 2)
 have h2 : Pure.I64 (1 + ((i / 2 : Nat) : Int)) := ⟨by omega, by omega⟩
 have h3 := keysTo_len 3
 have h4 := ask_small (fG (i % 2)) _ (keysTo 3) (by omega) h2 (by omega) keysTo_ok
 exact ⟨refAsk_ev _ _ _ (by omega) h2 (by omega) keysTo_ok, Asked_ev _ _ _ (by omega) h2 (by omega) keysTo_ok, Tell_ask _ _ _ (by omega)⟩
theorem allAt_sub (L : List S55) (i : Nat) : (allAt L i).Sublist L := List.filter_sublist
theorem und33 : Try.prog.underlying 33 = some (.slice 52) := by kernel_rfl
theorem info52k : (Try.prog.info? 52).map (fun i => (i.zero, i.size, i.bytes)) = some (some (.agg #[.int .i64 0, .int .i64 0, .int .i64 0]), k52.sz, 24) := by kernel_rfl
theorem R_rowsM {α : Type} {d : Kd α} {e base n c : Nat} {ok : Nat → Prop} {w : World} {A : Option Addr} {l : List α} (h : d.R e w base ok (.slice A n c) l) : ReadsRow (d.M w base ok) d.sz w A n l := by
 obtain ⟨A', c', he, hl, hr⟩ := OwnRow.reads h.2
 injection he with h1 h2 h3
 subst h1 h2
 exact hr.imp_ (Below.refl _ _) (fun _ _ hp => d.M_mono (fun k hk => hk.1) hp)
end Go.Proofs.Ythokkeljfdfppaa.Rl

/- all: a relay is asked for everything. -/
set_option linter.unusedVariables false
set_option linter.unusedSimpArgs false
namespace Go.Proofs.Ythokkeljfdfppaa.Rl
open Go.RowKit Go.Proofs.YthokkeljfdfppaaW.PrintWords Go.Proofs.YthokkeljfdfppaaW.PrintLast Go.Proofs.YthokkeljfdfppaaW.PrintMore Go.Proofs.Ythokkeljfdfppaa.Pb Go.Proofs.Ythokkeljfdfppaa.Gw Go.Proofs.Ythokkeljfdfppaa.Pure
theorem keys4_reads (wr : World) (j : Nat) : ReadsRow (fun (x : S52) cs => cs = [.int .i64 x.f0, .int .i64 x.f1, .int .i64 x.f2]) k52.sz (wr.alloc (.cells #[.int .i64 1, .int .i64 (j : Int), .int .i64 0, .int .i64 2, .int .i64 (j : Int), .int .i64 0, .int .i64 3, .int .i64 (j : Int), .int .i64 0, .int .i64 3, .int .i64 (j : Int), .int .i64 1] 52)) (some ⟨wr.heap.size, 0, none⟩) 4 (keys4 j) := by
 have h := C_keys wr (keys4 j) #[.int .i64 1, .int .i64 (j : Int), .int .i64 0, .int .i64 2, .int .i64 (j : Int), .int .i64 0, .int .i64 3, .int .i64 (j : Int), .int .i64 0, .int .i64 3, .int .i64 (j : Int), .int .i64 1] 4 rfl rfl (by decide)
 obtain ⟨h1, h2, h3⟩ := h
 refine ⟨h1, h2, fun hn => ?_⟩
 obtain ⟨ad, h4, h5⟩ := h3 hn
 refine ⟨ad, h4, fun j p hp => ?_⟩
 obtain ⟨cs, a, b, c⟩ := h5 j p hp
 exact ⟨cs, a, k52_open b, c⟩
theorem q2_facts (i q2 : Nat) (vI : Int) (hi : i ≤ 100) (hq : q2 ≤ 1) (hv : vI = 1 + (q2 : Int)) : IntKind.i64.wrap (q2 : Int) = (q2 : Int) ∧ wrap64 (q2 : Int) = (q2 : Int) ∧ IntKind.i64.wrap (1 + (q2 : Int)) = vI ∧ wrap64 (1 + (q2 : Int)) = vI ∧ wrap64 ((i : Int) + 1) = ((i + 1 : Nat) : Int) := by
 refine ⟨?_, ?_, ?_, ?_, ?_⟩
 · rw [IntKind.wrap_i64]; omega
 · unfold wrap64; omega
 · rw [IntKind.wrap_i64]; omega
 · unfold wrap64; omega
 · unfold wrap64; omega
theorem refAsk_n (k : Nat) (f : ByteArray) (v : Int) (A : Option Addr) (c n : Nat) (keys : List S52) (r : ByteArray) (w : World) (hn : n = keys.length) (hC : Kd.C k52 w A n keys) (hc : n ≤ c) (h : abugidaref35_Ask.f k f v keys = some r) :
 Calls Try.prog 18 #[.string f, .int .i64 v, .slice A n c] w fun e w' => e = .returned (.string r) ∧ Below w.heap.size w w' := by
 subst hn
 exact abugidaref35_Ask.calls k f v A c keys r w hC hc h
set_option maxHeartbeats 16000000 in
set_option maxRecDepth 100000 in
theorem all_c {w : World} {g b : Nat} {bytes : Int} {N : Nat} {L : List S55} (h : RS w g b 2 bytes N L) (h0 : 0 < bytes) (hbig : bytes ≤ 1099511627776) (hN : N ≤ 12) (hm : ∀ p ∈ L, MadeP p) :
 Calls Try.prog 38 #[.pointer (some ⟨g, 0, none⟩)] w fun e w' => ∃ (A : Option Addr) (c : Nat), e = .returned (.slice A (allTo L 4).length c) ∧ (allTo L 4).length ≤ c ∧ (0 < (allTo L 4).length → ∃ ga, A = some ⟨ga, 0, none⟩) ∧ Kd.F k55 w' (fun k => w.heap.size ≤ k) A (allTo L 4).length (allTo L 4) ∧ Below w.heap.size w w' := by
 have HW := Lib.hid h
 have HN := Lib.hid (show 0 < bytes ∧ bytes ≤ 1099511627776 ∧ N ≤ 12 from ⟨h0, hbig, hN⟩)
 have HM := Lib.hid hm
 have HGB := Lib.hid h.gb
 have HLN := Lib.hid h.oks.2.1
 clear h h0 hbig hN hm
 go_enter Try.func38, Try.ntmps38
 go_wp2
 go_loopg [4, 5] 4 (fun kq v4 v5 w' => ∃ j : Nat, v5 = .int .i64 (j : Int) ∧ j + kq = 4 ∧ j ≤ 3 ∧ Kd.R k52 52 w' w.heap.size (fun _ => True) v4 (keysTo j) ∧ Below w.heap.size w w')
 case atStart => exact ⟨0, rfl, by omega, by omega, Kd.R_nil _ _ _ _ _, Below.refl _ _⟩
 case round =>
  obtain ⟨j, rfl, hk, hj, hR, hB⟩ := hrel
  have HJ := Lib.hid (show j + gk = 4 ∧ j ≤ 3 from ⟨hk, hj⟩)
  have HR := Lib.hid hR
  have HB := Lib.hid hB
  by_cases c0 : j < 3
  · have d1 : decide ((j : Int) < 3) = true := decide_eq_true (by omega)
    have e1 : wrap64 ((j : Int) + 1) = ((j + 1 : Nat) : Int) := by rw [rl64 (by omega) (by omega)]; omega
    clear hk hj hR hB
    go_wp2_with (first
     | ((with_reducible refine gate_builtin (b := .append) (xs := #[.tmp 15, .tmp 24]) rfl ?_); at_builtin
        go_loud (refine Kd.R_append_rows k52 (Rr := fun x cs => cs = [.int .i64 x.f0, .int .i64 x.f1, .int .i64 x.f2]) (w0 := w) w.heap.size rfl (.tmp 15) (.tmp 24) 33 52 (.agg #[.int .i64 0, .int .i64 0, .int .i64 0]) 24 rfl und33 info52k rfl (show 0 < 3 by omega) (by omega) u4 (keysTo j) (keys4 j) (some ⟨wr.heap.size, 0, none⟩) 4 4 (fun _ => True) (fun _ => False) rfl ?aX ?aO ?aR ?aM (fun _ hk => hk.elim) (fun _ _ => trivial) ?aB ?aS ?aL ?_)
        go_loud (case aX => rfl)
        go_loud (case aO => exact Kd.R_below HR.out (below_alloc (Below.refl _ _) _))
        go_loud (case aR => exact keys4_reads wr j)
        go_loud (case aM => exact fun x cs hx => by rw [hx]; exact k52_mkM _ _ _ x)
        go_loud (case aB => exact below_alloc HB.out _)
        go_loud (case aS => exact (below_alloc HB.out _).size)
        go_loud (case aL => rw [keysTo_len]; have := HJ.out; omega)
        intro v9 w9 ho9 hb9 hg9 hat9
        have HO9 := Lib.hid ho9
        have HB9 := Lib.hid hb9
        clear ho9 hb9 hg9 hat9))
    cases gk with
    | zero => exact absurd HJ.out (by omega)
    | succ kk =>
      go_roundg kk
      case measure => omega
      case rel =>
       have h3 := HJ.out
       exact ⟨j + 1, by first | rw [e1] | rfl, by omega, by omega, by rw [keysTo_succ]; exact HO9.out, HB9.out⟩
  · have d1 : decide ((j : Int) < 3) = false := decide_eq_false (by omega)
    have hj3 : j = 3 := by omega
    subst hj3
    obtain ⟨A4, c4, rfl⟩ := Kd.R_slice HR.out
    have HKF := Lib.hid (R_F (Kd.R_mono (ok' := fun k => w.heap.size ≤ k) (Kd.R_bound HR.out) (fun k hk => hk.2.1)))
    have HKC := Lib.hid (Kd.R_reads' HR.out).2.1
    obtain ⟨n12, hn12⟩ : ∃ n, n = (keysTo 3).length := ⟨_, rfl⟩
    rw [← hn12] at HKF HKC
    rw [← hn12]
    have HN12 := Lib.hid hn12
    clear hn12 hk hj hR hB HR c0
    obtain ⟨Wk, hwk⟩ : ∃ W, W = wr := ⟨_, rfl⟩
    subst hwk
    go_wp2
    go_loopg [3, 6] 5 (fun kq v3 v6 w' => ∃ i : Nat, v6 = .int .i64 (i : Int) ∧ i + kq = 5 ∧ i ≤ 4 ∧ Kd.R k55 55 w' Wk.heap.size (fun _ => True) v3 (allTo L i) ∧ Below Wk.heap.size Wk w')
    case atStart => exact ⟨0, rfl, by omega, by omega, Kd.R_nil _ _ _ _ _, Below.refl _ _⟩
    case round =>
     clear HJ d1
     obtain ⟨i, rfl, hk, hi, hR, hB⟩ := hrel
     have HJ := Lib.hid (show i + gk = 5 ∧ i ≤ 4 from ⟨hk, hi⟩)
     have HR := Lib.hid hR
     have HBI := Lib.hid hB
     have HBW0 := Lib.hid (HB.out.trans (hB.mono HB.out.size))
     have HS := Lib.hid (HW.out.below HBW0.out)
     by_cases c0 : i < 4
     · have d1 : decide ((i : Int) < 4) = true := decide_eq_true (by omega)
       obtain ⟨HE1, HE2, HE3⟩ := ask_all i c0
       have hat : allTo L (i + 1) = allTo L i ++ askL (fG (i % 2)) (1 + ((i / 2 : Nat) : Int)) (keysTo 3) L := allTo_succ L i
       obtain ⟨tA, htA⟩ : ∃ x, x = AskB (fG (i % 2)) (1 + ((i / 2 : Nat) : Int)) (keysTo 3) := ⟨_, rfl⟩
       rw [← htA] at HE1 HE2 HE3
       obtain ⟨r2, hr2⟩ : ∃ r, r = i % 2 := ⟨_, rfl⟩
       obtain ⟨q2, hq2⟩ : ∃ r, r = i / 2 := ⟨_, rfl⟩
       rw [← hr2, ← hq2] at HE1 HE2 hat
       obtain ⟨vI, hvI⟩ : ∃ x : Int, x = 1 + (q2 : Int) := ⟨_, rfl⟩
       rw [← hvI] at HE1 HE2 hat
       obtain ⟨ka, hka⟩ := HE1.rounds
       have HE := Lib.hid hka
       have HA2 := Lib.hid HE2
       have HA3 := Lib.hid HE3
       have HSUB := Lib.hid (show (askL (fG r2) vI (keysTo 3) L).Sublist L from List.filter_sublist)
       have hml := HSUB.out.length_le
       have hln := HLN.out
       have hn12 := HN.out.2.2
       have E4 := refTell_ev (askL (fG r2) vI (keysTo 3) L) (by omega) (fun p hp => HM.out p (HSUB.out.mem hp))
       obtain ⟨ml, hml2⟩ : ∃ x, x = askL (fG r2) vI (keysTo 3) L := ⟨_, rfl⟩
       rw [← hml2] at hat E4 hml
       obtain ⟨tm, htm⟩ : ∃ x, x = ToldB ml := ⟨_, rfl⟩
       rw [← htm] at E4
       obtain ⟨kt, hkt⟩ := E4.rounds
       have HT4 := Lib.hid hkt
       have HAT := Lib.hid hat
       have HML := Lib.hid hml2
       have HTM := Lib.hid htm
       have HLL := Lib.hid (show (allTo L i).length + ml.length ≤ 100 from by
        have h1 : ∀ j, (allTo L j).length ≤ j * 12 := fun j => by
         induction j with
         | zero => simp [allTo]
         | succ j ih => rw [allTo_succ, List.length_append]; have := (allAt_sub L j).length_le; omega
        have := h1 i
        omega)
       have r2b : r2 < 2 := by omega
       have m1 : ((i : Int).tmod 2) = (r2 : Int) := by rw [hr2]; rfl
       have m2 : ((i : Int).tdiv 2) = (q2 : Int) := by rw [hq2]; rfl
       have i1 : ((0 : Int) ≤ (r2 : Int)) = True := eq_true (by omega)
       have i2 : ((r2 : Int) < 2) = True := eq_true (by omega)
       have i3 : (r2 < 2) = True := eq_true r2b
       have HW4 := Lib.hid (q2_facts i q2 vI (by omega) (by omega) hvI)
       have HN9 := Lib.hid (show N ≤ 9000 from by omega)
       have HK12 := Lib.hid (show (keysTo 3).length ≤ 1000 from by rw [keysTo_len]; omega)
       have cf : (wr.alloc (.cells #[.string ⟨#[102]⟩, .string ⟨#[103]⟩] 9 (0, 0))).cell? ⟨wr.heap.size, r2, none⟩ = some (.string (fG r2)) := fg_cell (blk_new wr _) r2 r2b
       have HBA := Lib.hid (below_alloc (Below.refl wr.heap.size wr) (.cells #[.string ⟨#[102]⟩, .string ⟨#[103]⟩] 9 (0, 0)))
       have HTA := Lib.hid htA
       clear hk hi hR hB HE1 HE2 HE3 hka hat htA hr2 hq2 hvI r2b hml hln hn12 E4 hml2 htm hkt
       cases gk with
       | zero => exact absurd HJ.out (by omega)
       | succ kA =>
         obtain ⟨m5, m6, m3, m4, -⟩ := HW4.out
         go_upto_block 4 with (first
          | (go_at_call 18; refine (refAsk_n ka (fG r2) vI A4 c4 n12 (keysTo 3) tA _ HN12.out (Kd.C_below (Kd.F_now (Kd.F_below HKF.out HBI.out)) HBA.out) HKC.out HE.out).mono ?_; rintro e w1 ⟨rfl, hb⟩; have HB1 := Lib.hid (HBA.out.trans (hb.mono HBA.out.size)); clear hb)
          | (go_at_call 33; refine (Take_ask (HS.out.below HB1.out) HN.out.1 HN9.out tA (fG r2) vI (keysTo 3) HA2.out HK12.out HA3.out 1 2 rfl).mono ?_; rintro e w2 ⟨gm, rfl, hgm, hcell, hb⟩; rw [← HML.out, ← HTM.out] at hcell; have HGM := Lib.hid hgm; have HCE := Lib.hid hcell; have HB2 := Lib.hid (HB1.out.trans (hb.mono HB1.out.size)); clear hgm hcell hb))
         have HR2 := Lib.hid (Kd.R_below HR.out HB2.out)
         have HBW := Lib.hid (HBI.out.trans (HB2.out.mono HBI.out.size))
         have cm : w2.cell? ⟨gm, 2, none⟩ = some (.string tm) := ck HCE.out 2 _ rfl
         clear HBI HS HR cf m1 m2 m3 m4 m5 m6 i1 i2 i3 HB1 HBA
         go_wp2
         go_loopg [3, 8] 2 (fun kq v3 v8 w' => (v8 = .int .i64 0 ∧ kq = 2 ∧ v3 = u3 ∧ w' = w2) ∨ (v8 = .int .i64 1 ∧ kq = 1 ∧ Kd.R k55 55 w' Wk.heap.size (fun _ => True) v3 (allTo L (i + 1)) ∧ Below Wk.heap.size Wk w'))
         case atStart => exact .inl ⟨rfl, rfl, rfl, rfl⟩
         case round =>
          rcases hrel with ⟨rfl, hk, rfl, rfl⟩ | ⟨rfl, hk, hR, hB⟩
          · have HK := Lib.hid hk
            clear hk
            go_wp2_with (first
             | (go_at_call 26; refine (abugidaref35_Tell.calls kt tm ml true _ HT4.out).mono ?_; rintro e w5 ⟨v5, rfl, hr, hb⟩; obtain ⟨A5, c5, rfl⟩ := Kd.R_slice (Kd.S_R hr); have HR5 := Lib.hid (Kd.R_lower (Kd.R_bound (Kd.S_R hr)) HBW.out.size); have HO5 := Lib.hid (Kd.R_below HR2.out hb); have HB5 := Lib.hid (HBW.out.trans (hb.mono HBW.out.size)); clear hr hb)
             | ((with_reducible refine gate_builtin (b := .append) (xs := #[.tmp 58, .tmp 59]) rfl ?_); at_builtin
                go_loud (refine Kd.R_append_rows k55 (w0 := Wk) Wk.heap.size rfl (.tmp 58) (.tmp 59) 42 55 (.agg ZP) 120 rfl und42 info55k rfl (show 0 < 11 by omega) (by omega) u3 (allTo L i) ml A5 ml.length c5 (fun _ => True) _ rfl ?aX HO5.out (R_rowsM HR5.out) (fun _ _ hx => hx) ?aP (fun _ _ => trivial) HB5.out HB5.out.size ?aL ?_)
                go_loud (case aX => rfl)
                go_loud (case aP => exact fun k hk => ⟨trivial, fun he => by have h1 := ((Kd.R_bound HR2.out).1 k he.symm).2.2; have h2 := hk.2.1; omega⟩)
                go_loud (case aL => have := HLL.out; omega)
                intro v9 w9 ho9 hb9 hg9 hat9
                have HO9 := Lib.hid ho9
                have HB9 := Lib.hid hb9
                clear ho9 hb9 hg9 hat9))
            cases gk with
            | zero => exact absurd HK.out (by omega)
            | succ kk =>
              go_roundg kk
              case measure => omega
              case rel => exact .inr ⟨rfl, by have := HK.out; omega, by rw [HAT.out]; exact HO9.out, HB9.out⟩
          · have HR3 := Lib.hid hR
            have HB3 := Lib.hid hB
            clear hk hR hB cm
            go_wp2
            go_roundg kA
            case measure => omega
            case rel =>
             have h3 := HJ.out
             exact ⟨i + 1, by first | rw [HW4.out.2.2.2.2] | rfl, by omega, by omega, HR3.out, HB3.out⟩
     · have d1 : decide ((i : Int) < 4) = false := decide_eq_false (by omega)
       have hi4 : i = 4 := by omega
       subst hi4
       obtain ⟨A, c, rfl⟩ := Kd.R_slice HR.out
       have HRb := Lib.hid (Kd.R_mono (ok' := fun k => w.heap.size ≤ k) (Kd.R_bound HR.out) (fun k hk => Nat.le_trans HB.out.size hk.2.1))
       clear hk hi hR hB c0
       go_wp2
       go_ret
       exact ⟨A, c, rfl, (Kd.R_reads' HR.out).2.1, fun hn => R_some HR.out hn, R_F HRb.out, HBW0.out⟩
end Go.Proofs.Ythokkeljfdfppaa.Rl

/- What a relay tells when asked for everything: what it keeps, in another order. What is kept: the last one of rivals. -/
set_option linter.unusedVariables false
set_option linter.unusedSimpArgs false
namespace Go.Proofs.Ythokkeljfdfppaa.Rl
open Go.RowKit Go.Proofs.YthokkeljfdfppaaW.PrintWords Go.Proofs.YthokkeljfdfppaaW.PrintLast Go.Proofs.YthokkeljfdfppaaW.PrintMore Go.Proofs.Ythokkeljfdfppaa.Pb Go.Proofs.Ythokkeljfdfppaa.Gw Go.Proofs.Ythokkeljfdfppaa.Pure
theorem hasK_made {p : S55} (h : MadeP p) : hasK (keysTo 3) p.f2 = true := by
 obtain ⟨f0, f1, ⟨k1, k2, k3⟩, f3, f4, f5, f6⟩ := p
 have e2 : 1 ≤ k1 ∧ k1 ≤ 3 := h.k1
 have e3 : 0 ≤ k2 ∧ k2 ≤ 2 := h.k2
 have e4 : k3 = 0 ∨ (k1 = 3 ∧ k3 = 1) := h.k3
 have h1 : k1 = 1 ∨ k1 = 2 ∨ k1 = 3 := by omega
 have h2 : k2 = 0 ∨ k2 = 1 ∨ k2 = 2 := by omega
 clear h
 show hasK (keysTo 3) ⟨k1, k2, k3⟩ = true
 rcases h2 with rfl | rfl | rfl <;> rcases e4 with rfl | ⟨rfl, rfl⟩ <;> (try rcases h1 with rfl | rfl | rfl) <;> decide +kernel
theorem perm4 {α : Type} (p0 p1 p2 p3 : α → Bool) : ∀ (L : List α), (∀ x ∈ L, (p0 x = true ∧ p1 x = false ∧ p2 x = false ∧ p3 x = false) ∨ (p0 x = false ∧ p1 x = true ∧ p2 x = false ∧ p3 x = false) ∨ (p0 x = false ∧ p1 x = false ∧ p2 x = true ∧ p3 x = false) ∨ (p0 x = false ∧ p1 x = false ∧ p2 x = false ∧ p3 x = true)) →
 (L.filter p0 ++ (L.filter p1 ++ (L.filter p2 ++ L.filter p3))).Perm L
 | [], _ => List.Perm.refl _
 | x :: L, h => by
   have ih := perm4 p0 p1 p2 p3 L (fun y hy => h y (List.mem_cons_of_mem _ hy))
   rcases h x List.mem_cons_self with ⟨a, b, c, d⟩ | ⟨a, b, c, d⟩ | ⟨a, b, c, d⟩ | ⟨a, b, c, d⟩
   · simp only [List.filter_cons, a, b, c, d, if_true, Bool.false_eq_true, if_false]
     exact ih.cons x
   · simp only [List.filter_cons, a, b, c, d, if_true, Bool.false_eq_true, if_false]
     exact List.perm_middle.trans (ih.cons x)
   · simp only [List.filter_cons, a, b, c, d, if_true, Bool.false_eq_true, if_false]
     refine ((List.Perm.append_left _ List.perm_middle).trans List.perm_middle).trans (ih.cons x)
   · simp only [List.filter_cons, a, b, c, d, if_true, Bool.false_eq_true, if_false]
     refine ((List.Perm.append_left _ ((List.Perm.append_left _ List.perm_middle).trans List.perm_middle)).trans List.perm_middle).trans (ih.cons x)
theorem all_perm (L : List S55) (h : ∀ p ∈ L, MadeP p) : (allTo L 4).Perm L := by
 have e : allTo L 4 = L.filter (wants (fG 0) 1 (keysTo 3)) ++ (L.filter (wants (fG 1) 1 (keysTo 3)) ++ (L.filter (wants (fG 0) 2 (keysTo 3)) ++ L.filter (wants (fG 1) 2 (keysTo 3)))) := by
  rw [allTo_succ, allTo_succ, allTo_succ, allTo_succ]
  show ((([] ++ _) ++ _) ++ _) ++ _ = _
  rw [List.nil_append, List.append_assoc, List.append_assoc]
  rfl
 rw [e]
 refine perm4 _ _ _ _ L (fun x hx => ?_)
 have hm := h x hx
 have hk := hasK_made hm
 have g0 : (fG 0).toList = ([102] : List UInt8) := by decide +kernel
 have g1 : (fG 1).toList = ([103] : List UInt8) := by decide +kernel
 have z0 : (⟨#[102]⟩ : ByteArray).toList = ([102] : List UInt8) := by decide +kernel
 have z1 : (⟨#[103]⟩ : ByteArray).toList = ([103] : List UInt8) := by decide +kernel
 have a : (x.f0.toList = [102]) ∨ (x.f0.toList = [103]) := by
  rcases hm.f0 with e | e
  · exact .inl (by rw [e, z0])
  · exact .inr (by rw [e, z1])
 unfold wants
 rw [hk, g0, g1]
 rcases a with a | a <;> rcases hm.f1 with b | b <;> rw [a, b] <;> decide
theorem sumP_perm {l m : List S55} (h : l.Perm m) : sumP l = sumP m := by
 induction h with
 | nil => rfl
 | cons x _ ih => simp only [sumP, List.map_cons, List.sum_cons] at ih ⊢; rw [ih]
 | swap x y l => simp only [sumP, List.map_cons, List.sum_cons]; omega
 | trans _ _ h1 h2 => exact h1.trans h2
theorem keepAll_made (bytes : Int) : ∀ (l L : List S55), (∀ p ∈ l, MadeP p) → (∀ p ∈ L, MadeP p) → ∀ p ∈ keepAll bytes L l, MadeP p
 | [], L, _, hL => hL
 | x :: l, L, hl, hL => keepAll_made bytes l (keepP bytes L x).2 (fun p hp => hl p (List.mem_cons_of_mem _ hp)) (fun p hp => by
   unfold keepP at hp
   split at hp
   · exact hL p hp
   · rcases List.mem_append.1 hp with hp | hp
     · exact hL p ((List.filter_sublist).mem ((fitP_sub _ _).mem hp))
     · rw [List.mem_singleton.1 hp]; exact hl x List.mem_cons_self)
where
 fitP_sub : ∀ (l : List S55) (room : Int), (fitP l room).Sublist l
  | [], _ => List.Sublist.refl _
  | x :: l, room => by
    unfold fitP
    split
    · exact (fitP_sub l room).cons x
    · exact List.Sublist.refl _
theorem fitP_sub (l : List S55) (room : Int) : (fitP l room).Sublist l := keepAll_made.fitP_sub l room
theorem eqN_iff (a b : S55) : eqN a b = true ↔ nmOf a = nmOf b := by
 obtain ⟨a0, a1, ⟨a2, a3, a4⟩, ⟨a5, a6, a7⟩, a8, a9, a10⟩ := a
 obtain ⟨b0, b1, ⟨b2, b3, b4⟩, ⟨b5, b6, b7⟩, b8, b9, b10⟩ := b
 unfold eqN nmOf
 simp only [Bool.and_eq_true, beq_iff_eq, eqK_iff, toList_eq, Nm.mk.injEq, S52.mk.injEq]
 constructor
 · rintro ⟨h1, h2, ⟨h3, h4, h5⟩, h6, h7, h8⟩
   exact ⟨h1, h2, h3, h4, h5, h6, h7, h8⟩
 · rintro ⟨h1, h2, h3, h4, h5, h6, h7, h8⟩
   exact ⟨h1, h2, ⟨h3, h4, h5⟩, h6, h7, h8⟩
theorem keep_there {bytes : Int} {L : List S55} {p : S55} (h : ¬ bytes < szP p) : p ∈ (keepP bytes L p).2 := by
 unfold keepP
 rw [if_neg h]
 simp
def Inv (bytes : Int) (P : List S55) (i : Nat) (L : List S55) : Prop := ∀ x ∈ L, ∃ j, j < i ∧ P[j]? = some x ∧ szP x ≤ bytes ∧ ∀ j' y, j < j' → j' < i → P[j']? = some y → eqN y x = true → bytes < szP y
theorem Inv.nil (bytes : Int) (P : List S55) (i : Nat) : Inv bytes P i [] := fun x hx => absurd hx (by simp)
theorem Inv.step {bytes : Int} {P : List S55} {i : Nat} {L : List S55} {p : S55} (h : Inv bytes P i L) (hx : P[i]? = some p) : Inv bytes P (i + 1) (keepP bytes L p).2 := by
 intro x hm
 unfold keepP at hm
 by_cases c : bytes < szP p
 · rw [if_pos c] at hm
   obtain ⟨j, h1, h2, h3, h4⟩ := h x hm
   refine ⟨j, by omega, h2, h3, fun j' y a1 a2 a3 a4 => ?_⟩
   by_cases e : j' = i
   · subst e
     rw [hx] at a3
     injection a3 with a3
     rw [← a3]
     exact c
   · exact h4 j' y a1 (by omega) a3 a4
 · rw [if_neg c] at hm
   rcases List.mem_append.1 hm with hm | hm
   · have hm2 := (fitP_sub _ _).mem hm
     obtain ⟨hL, hne⟩ := List.mem_filter.1 hm2
     obtain ⟨j, h1, h2, h3, h4⟩ := h x hL
     refine ⟨j, by omega, h2, h3, fun j' y a1 a2 a3 a4 => ?_⟩
     by_cases e : j' = i
     · subst e
       rw [hx] at a3
       injection a3 with a3
       subst a3
       exact absurd ((eqN_iff _ _).1 a4).symm (of_decide_eq_true hne)
     · exact h4 j' y a1 (by omega) a3 a4
   · rw [List.mem_singleton.1 hm]
     exact ⟨i, by omega, hx, by omega, fun j' y a1 a2 => by omega⟩
def NewTo (bytes : Int) (P : List S55) (t : S55) (k : Nat) (m : Int) : Prop :=
 (m = -1 ∧ ∀ j y, j < k → P[j]? = some y → eqN y t = true → bytes < szP y) ∨
 ∃ (j : Nat) (y : S55), m = (j : Int) ∧ j < k ∧ P[j]? = some y ∧ eqN y t = true ∧ szP y ≤ bytes ∧ ∀ j' y', j < j' → j' < k → P[j']? = some y' → eqN y' t = true → bytes < szP y'
theorem NewTo.zero (bytes : Int) (P : List S55) (t : S55) : NewTo bytes P t 0 (-1) := .inl ⟨rfl, fun j y h => by omega⟩
theorem NewTo.skip {bytes : Int} {P : List S55} {t : S55} {k : Nat} {m : Int} {p : S55} (h : NewTo bytes P t k m) (hx : P[k]? = some p) (hn : eqN p t = true → bytes < szP p) : NewTo bytes P t (k + 1) m := by
 have last : ∀ j' y', j' = k → P[j']? = some y' → eqN y' t = true → bytes < szP y' := fun j' y' e a b => by
  subst e
  rw [hx] at a
  injection a with a
  subst a
  exact hn b
 rcases h with ⟨rfl, h⟩ | ⟨j, y, rfl, h1, h2, h3, h4, h5⟩
 · exact .inl ⟨rfl, fun j y a b c => by
    by_cases e : j = k
    · exact last j y e b c
    · exact h j y (by omega) b c⟩
 · exact .inr ⟨j, y, rfl, by omega, h2, h3, h4, fun j' y' a a2 b c => by
    by_cases e : j' = k
    · exact last j' y' e b c
    · exact h5 j' y' a (by omega) b c⟩
theorem NewTo.take {bytes : Int} {P : List S55} {t : S55} {k : Nat} {p : S55} (hx : P[k]? = some p) (h1 : eqN p t = true) (h2 : szP p ≤ bytes) : NewTo bytes P t (k + 1) (k : Int) :=
 .inr ⟨k, p, rfl, by omega, hx, h1, h2, fun j' y' a a2 => by omega⟩
theorem eqN_self (a : S55) : eqN a a = true := (eqN_iff a a).2 rfl
theorem NewTo.done {bytes : Int} {P : List S55} {t : S55} {k : Nat} {m : Int} {L : List S55} (h : NewTo bytes P t k m) (hI : Inv bytes P k L) (ht : t ∈ L) : ∃ j : Nat, m = (j : Int) ∧ j < k ∧ P[j]? = some t := by
 obtain ⟨j, h1, h2, h3, h4⟩ := hI t ht
 rcases h with ⟨rfl, h⟩ | ⟨j2, y, rfl, g1, g2, g3, g4, g5⟩
 · exact absurd (h j t h1 h2 (eqN_self t)) (by omega)
 · refine ⟨j2, rfl, g1, ?_⟩
   by_cases e : j = j2
   · rw [← e]; exact h2
   · by_cases lt : j < j2
     · exact absurd (h4 j2 y lt g1 g2 g3) (by omega)
     · exact absurd (g5 j t (by omega) h1 h2 (eqN_self t)) (by omega)
end Go.Proofs.Ythokkeljfdfppaa.Rl

