/- Made: a patch out of three numbers. -/
import Derived.Test.YthokkeljfdfppaaRlK
set_option linter.unusedVariables false
set_option linter.unusedSimpArgs false
namespace Go.Proofs.Ythokkeljfdfppaa.Rl
open Go.RowKit Go.Proofs.YthokkeljfdfppaaW.PrintWords Go.Proofs.YthokkeljfdfppaaW.PrintLast Go.Proofs.YthokkeljfdfppaaW.PrintMore Go.Proofs.Ythokkeljfdfppaa.Pb Go.Proofs.Ythokkeljfdfppaa.Gw
theorem zba3 {p : Prop} (h : p := by simp only [Act.put, nS]; rfl) : p := h
theorem zba2 {p : Prop} (h : p := by intro w'; go_simp; with_reducible rfl) : p := h
theorem zba1 {p : Prop} (h : p := by show Act.put _ (some _) _ = _; simp only [Act.put, nS]; rfl) : p := h
theorem zba0 {p : Prop} (h : p := by first | (simp only [putAll, Act.put, nS]; done) | (simp only [putAll, Act.put, nS]; rfl)) : p := h
structure MadeP (p : S55) : Prop where
 f0 : p.f0 = ⟨#[102]⟩ ∨ p.f0 = ⟨#[103]⟩
 f1 : p.f1 = 1 ∨ p.f1 = 2
 k1 : 1 ≤ p.f2.f0 ∧ p.f2.f0 ≤ 3
 k2 : 0 ≤ p.f2.f1 ∧ p.f2.f1 ≤ 2
 k3 : p.f2.f2 = 0 ∨ (p.f2.f0 = 3 ∧ p.f2.f2 = 1)
 b : p.f3 = ⟨0, 0, 0⟩ ∨ p.f3 = ⟨2, 1, 0⟩
 f4 : p.f4.size ≤ 31
 f5 : 0 ≤ p.f5 ∧ p.f5 ≤ 7
 f6 : p.f6.length ≤ 3
 el : ∀ t ∈ p.f6, t.size = 8
theorem and_low (q : Int) (m : Nat) (hm : m ≤ 255) : ∃ r : Nat, r ≤ m ∧ bits .and .i64 q (m : Int) = (r : Int) := by
 refine ⟨((BitVec.ofInt 64 q) &&& (BitVec.ofInt 64 (m : Int))).toNat, ?_, ?_⟩
 · rw [BitVec.toNat_and, BitVec.ofInt_natCast, BitVec.toNat_ofNat, Nat.mod_eq_of_lt (a := m) (by omega)]
   exact Nat.and_le_right
 · have h : ((BitVec.ofInt 64 q) &&& (BitVec.ofInt 64 (m : Int))).toNat ≤ m := by
    rw [BitVec.toNat_and, BitVec.ofInt_natCast, BitVec.toNat_ofNat, Nat.mod_eq_of_lt (a := m) (by omega)]
    exact Nat.and_le_right
   show IntKind.i64.wrap ((((BitVec.ofInt 64 q) &&& (BitVec.ofInt 64 (m : Int))).toNat : Nat) : Int) = _
   rw [IntKind.wrap_i64]
   omega
theorem wrap_small (n : Nat) (h : n ≤ 1000) : IntKind.i64.wrap (n : Int) = (n : Int) ∧ wrap64 (n : Int) = (n : Int) := by
 constructor
 · rw [IntKind.wrap_i64]; omega
 · unfold wrap64; omega
theorem wrap_one (n : Nat) (y : Int) (h : n ≤ 1000) (hy : y = 1 + (n : Int)) : IntKind.i64.wrap (1 + (n : Int)) = y ∧ wrap64 (1 + (n : Int)) = y := by
 constructor
 · rw [IntKind.wrap_i64]; omega
 · unfold wrap64; omega
def fG (d : Nat) : ByteArray := if d = 0 then ⟨#[102]⟩ else ⟨#[103]⟩
def zerosB (n : Nat) : ByteArray := strOfNums (List.replicate n 0)
theorem zerosB_size (n : Nat) : (zerosB n).size = n := by unfold zerosB; rw [strOfNums_size, List.length_replicate]
theorem fg_cell {W : World} {g : Nat} (h : W.heap[g]? = some (.cells #[.string ⟨#[102]⟩, .string ⟨#[103]⟩] 9 (0, 0))) (d : Nat) (hd : d < 2) : W.cell? ⟨g, d, none⟩ = some (.string (fG d)) := by
 have : d = 0 ∨ d = 1 := by omega
 rcases this with rfl | rfl
 · exact ck h 0 _ rfl
 · exact ck h 1 _ rfl
theorem zeros_conv {W : World} {g n : Nat} (h : W.heap[g]? = some (.cells (madeCells #[.int .u8 0] n) 5 (0, 0))) : (convert 114 9 (.slice (some ⟨g, 0, none⟩) n n)).run Try.prog W = .ok (.string (zerosB n)) W :=
 run_convert_bytes_arg W _ _ Try.underlying114 Try.underlying5 g 0 n n (List.replicate n 0) (List.length_replicate ..) (fun i hi => by
  rw [Nat.zero_add]
  refine ck h i _ ?_
  simp [madeCells, hi, Nat.mod_one]) _ Try.underlying9
structure MSt (w : World) (q0 q1 q2 : Int) (G : Nat) (C : Array Value) (W : World) : Prop where
 x : W.heap[w.heap.size]? = some (.cells #[.int .i64 q0, .int .i64 q1, .int .i64 q2] 64 (0, 0))
 z : W.heap[w.heap.size + 1]? = some (.cells ZP 55 (0, 0))
 g : W.heap[G]? = some (.cells C 55 (0, 0))
 b : Below w.heap.size w W
theorem MSt.set {w : World} {q0 q1 q2 : Int} {G : Nat} {C C' : Array Value} {W : World} (h : MSt w q0 q1 q2 G C W) (hG : w.heap.size + 1 < G) (j : Nat) (hj : j < C.size) (v : Value) (he : C.setIfInBounds j v = C') : MSt w q0 q1 q2 G C' (W.setCell ⟨G, j, none⟩ v) :=
 ⟨(Below.heap_setCell W _ v _ (show w.heap.size ≠ G by omega)).trans h.x, (Below.heap_setCell W _ v _ (show w.heap.size + 1 ≠ G by omega)).trans h.z, cell_set h.g j hj v he, h.b.setCell (p := ⟨G, j, none⟩) (show w.heap.size ≤ G by omega) v⟩
theorem MSt.sets {w : World} {q0 q1 q2 : Int} {G : Nat} {C C' : Array Value} {W : World} (h : MSt w q0 q1 q2 G C W) (hG : w.heap.size + 1 < G) (j : Nat) (vs : List Value) (he : wrC C j vs = C') : MSt w q0 q1 q2 G C' (W.setCells G j vs) :=
 ⟨(setCells_other (show w.heap.size ≠ G by omega) _ _ _).trans h.x, (setCells_other (show w.heap.size + 1 ≠ G by omega) _ _ _).trans h.z, he ▸ setCells_blk vs j _ _ h.g, below_cells (show w.heap.size ≤ G by omega) _ _ _ h.b⟩
theorem MSt.grow {w : World} {q0 q1 q2 : Int} {G N1 : Nat} {C : Array Value} {W W1 : World} (h : MSt w q0 q1 q2 G C W) (hb : Below N1 W W1) (hG : G < N1) (hw : w.heap.size + 1 < N1) : MSt w q0 q1 q2 G C W1 :=
 ⟨(hb.block _ (by omega)).trans h.x, (hb.block _ hw).trans h.z, (hb.block _ hG).trans h.g, h.b.trans (hb.mono (by omega))⟩
theorem size_set (W : World) (p : Addr) (v : Value) : (W.setCell p v).heap.size = W.heap.size := by simp [World.setCell]
theorem size_sets : ∀ (vs : List Value) (W : World) (g o : Nat), (W.setCells g o vs).heap.size = W.heap.size
 | [], _, _, _ => rfl
 | v :: vs, W, g, o => (size_sets vs _ g (o + 1)).trans (size_set W _ v)

set_option maxHeartbeats 8000000 in
set_option maxRecDepth 100000 in
theorem Made_c (q0 q1 q2 : Int) (w : World) : Calls Try.prog 29 #[.agg #[.int .i64 q0, .int .i64 q1, .int .i64 q2]] w fun e w' => ∃ p A c, MadeP p ∧ e = .returned (.agg #[.string p.f0, .int .i64 p.f1, .int .i64 p.f2.f0, .int .i64 p.f2.f1, .int .i64 p.f2.f2, .int .i64 p.f3.f0, .int .i64 p.f3.f1, .int .i64 p.f3.f2, .string p.f4, .int .i64 p.f5, .slice A p.f6.length c]) ∧ Kd.R Kd.string 9 w' w.heap.size (fun _ => True) (.slice A p.f6.length c) p.f6 ∧ Below w.heap.size w w' := by
 obtain ⟨n, hn0, hn⟩ := and_low q0 255 (by omega)
 obtain ⟨nb, hnb0, hnb⟩ := and_low q1 31 (by omega)
 obtain ⟨ix, hix0, hix⟩ := and_low q2 7 (by omega)
 obtain ⟨kk, hkk0, hkk⟩ := and_low (q2 / 8) 3 (by omega)
 replace hn : bits .and .i64 q0 255 = (n : Int) := hn
 replace hnb : bits .and .i64 q1 31 = (nb : Int) := hnb
 replace hix : bits .and .i64 q2 7 = (ix : Int) := hix
 replace hkk : bits .and .i64 (q2 / 8) 3 = (kk : Int) := hkk
 have HN := Lib.hid (show n ≤ 255 ∧ nb ≤ 31 ∧ ix ≤ 7 ∧ kk ≤ 3 from ⟨hn0, hnb0, hix0, hkk0⟩)
 have HQ3 := Lib.hid (blk_alloc (blk_new w (.cells #[.int .i64 q0, .int .i64 q1, .int .i64 q2] 64 (0, 0))) (.cells ZP 55 (0, 0)))
 have HZ := Lib.hid (show ((w.alloc (.cells #[.int .i64 q0, .int .i64 q1, .int .i64 q2] 64 (0, 0))).alloc (.cells ZP 55 (0, 0))).heap[w.heap.size + 1]? = some (.cells ZP 55 (0, 0)) from by rw [← size1 w (.cells #[.int .i64 q0, .int .i64 q1, .int .i64 q2] 64 (0, 0))]; exact blk_new _ _)
 have HB := Lib.hid (below_alloc (below_alloc (Below.refl w.heap.size w) (.cells #[.int .i64 q0, .int .i64 q1, .int .i64 q2] 64 (0, 0))) (.cells ZP 55 (0, 0)))
 clear hn0 hnb0 hix0 hkk0
 go_enter Try.func29, Try.ntmps29
 obtain ⟨d0, hd0⟩ : ∃ x, x = n % 2 := ⟨_, rfl⟩
 obtain ⟨h2, hh2⟩ : ∃ x, x = n / 2 := ⟨_, rfl⟩
 obtain ⟨d1, hd1⟩ : ∃ x, x = h2 % 2 := ⟨_, rfl⟩
 obtain ⟨h4, hh4⟩ : ∃ x, x = n / 4 := ⟨_, rfl⟩
 obtain ⟨d2, hd2⟩ : ∃ x, x = h4 % 3 := ⟨_, rfl⟩
 obtain ⟨h12, hh12⟩ : ∃ x, x = n / 12 := ⟨_, rfl⟩
 obtain ⟨d3, hd3⟩ : ∃ x, x = h12 % 3 := ⟨_, rfl⟩
 obtain ⟨h36, hh36⟩ : ∃ x, x = n / 36 := ⟨_, rfl⟩
 obtain ⟨d4, hd4⟩ : ∃ x, x = h36 % 2 := ⟨_, rfl⟩
 obtain ⟨h72, hh72⟩ : ∃ x, x = n / 72 := ⟨_, rfl⟩
 obtain ⟨d5, hd5⟩ : ∃ x, x = h72 % 3 := ⟨_, rfl⟩
 obtain ⟨y1, hy1⟩ : ∃ x : Int, x = 1 + (d1 : Int) := ⟨_, rfl⟩
 obtain ⟨y2, hy2⟩ : ∃ x : Int, x = 1 + (d2 : Int) := ⟨_, rfl⟩
 have HD := Lib.hid (show d0 < 2 ∧ d1 < 2 ∧ d2 < 3 ∧ d3 < 3 ∧ d4 < 2 ∧ y1 = 1 + (d1 : Int) ∧ y2 = 1 + (d2 : Int) from by omega)
 have i1 : ((0 : Int) ≤ (d0 : Int)) = True := eq_true (by omega)
 have i2 : ((d0 : Int) < 2) = True := eq_true (by omega)
 have i3 : (d0 < 2) = True := eq_true (by omega)
 have hmk : ∀ W : World, (Instr.makeSlice 114 (.int .i64 (nb : Int)) (.int .i64 (nb : Int))).run Try.prog W = .ok (.slice (some ⟨W.heap.size, 0, none⟩) nb nb) (W.alloc (.cells (madeCells #[.int .u8 0] nb) 5)) :=
  run_make_row' 114 5 (.int .u8 0) 1 Try.underlying114 (by kernel_rfl) rfl .i64 .i64 nb (by have := HN.out; omega) (by have := HN.out; omega)
 have HSM := Lib.hid (show h2 ≤ 1000 ∧ h4 ≤ 1000 ∧ h12 ≤ 1000 ∧ h36 ≤ 1000 ∧ h72 ≤ 1000 from by have := HN.out; omega)
 have HYY := Lib.hid (show y1 = 1 + (d1 : Int) ∧ d1 ≤ 1000 ∧ y2 = 1 + (d2 : Int) ∧ d2 ≤ 1000 from by omega)
 have HLT := Lib.hid (show h36 = n / 36 ∧ d4 = h36 % 2 ∧ h72 = n / 72 ∧ d5 = h72 % 3 from ⟨hh36, hd4, hh72, hd5⟩)
 have ma : ((n : Int).tmod 2) = (d0 : Int) := by rw [hd0]; rfl
 have mb : ((n : Int).tdiv 2) = (h2 : Int) := by rw [hh2]; rfl
 obtain ⟨wmb, xmb⟩ := wrap_small h2 HSM.out.1
 have mc : ((h2 : Int).tmod 2) = (d1 : Int) := by rw [hd1]; rfl
 have md : ((n : Int).tdiv 4) = (h4 : Int) := by rw [hh4]; rfl
 obtain ⟨wmd, xmd⟩ := wrap_small h4 HSM.out.2.1
 have me : ((h4 : Int).tmod 3) = (d2 : Int) := by rw [hd2]; rfl
 have mf : ((n : Int).tdiv 12) = (h12 : Int) := by rw [hh12]; rfl
 obtain ⟨wmf, xmf⟩ := wrap_small h12 HSM.out.2.2.1
 have mg : ((h12 : Int).tmod 3) = (d3 : Int) := by rw [hd3]; rfl
 obtain ⟨ml, mn_⟩ := wrap_one d1 y1 HYY.out.2.1 HYY.out.1
 obtain ⟨mm, mo⟩ := wrap_one d2 y2 HYY.out.2.2.2 HYY.out.2.2.1
 clear hd0 hh2 hd1 hh4 hd2 hh12 hd3 hh36 hd4 hh72 hd5 hy1 hy2
 have hq := ck HQ3.out 0 _ rfl
 have hp1 := ck HQ3.out 1 _ rfl
 have hp2 := ck HQ3.out 2 _ rfl
 go_upto_region 2 with fail
 obtain ⟨W1, hW1⟩ : ∃ W, W = (w.alloc (.cells #[.int .i64 q0, .int .i64 q1, .int .i64 q2] 64 (0, 0))).alloc (.cells ZP 55 (0, 0)) := ⟨_, rfl⟩
 rw [← hW1] at HQ3 HZ HB hq hp1 hp2
 simp only [← hW1]
 clear hW1 hq
 have x1 : W1.drew.cell? ⟨w.heap.size, 1, none⟩ = some (.int .i64 q1) := hp1
 have x2 : W1.drew.cell? ⟨w.heap.size, 2, none⟩ = some (.int .i64 q2) := hp2
 have lx : w.heap.size < W1.drew.heap.size := World.block_lt_of_cell? _ _ x1
 have HQ3d := Lib.hid (show W1.drew.heap[w.heap.size]? = _ from HQ3.out)
 have HZd := Lib.hid (show W1.drew.heap[w.heap.size + 1]? = _ from HZ.out)
 have HBd := Lib.hid HB.out.drew
 clear hp1 hp2 HQ3 HZ HB
 refine start_ (n := 28) (S := fun w' => w'.cell? ⟨w.heap.size, 1, none⟩ = some (.int .i64 q1) ∧ w'.cell? ⟨w.heap.size, 2, none⟩ = some (.int .i64 q2)) (ds := [27]) #[false, false, false, false, false, false, false, false, false, false, false, false, false, false, false, false, false, false, false, false, false, false, false, false, false, false, false, false] (by kernel_rfl) rfl rfl ⟨x1, x2⟩ (fun hHeld => ?_)
 generalize W1.drew = wd at HQ3d HZd HBd x1 x2 lx hHeld ⊢; have HBv := Lib.hid (Below.refl wd.heap.size wd)
 refine pA 1 (some 10) rfl rfl zba2 zba3 ?_
 refine pA 2 (some 11) rfl rfl zba2 zba3 ?_
 refine pA 5 (some 14) rfl rfl zba2 zba3 ?_
 refine pA 6 (some 15) rfl rfl zba2 zba3 ?_
 refine pA 7 (some 16) rfl rfl zba2 zba3 ?_
 refine pA 8 (some 17) rfl rfl zba2 zba3 ?_
 refine pA 9 (some 18) rfl rfl zba2 zba3 ?_
 refine pA 10 (some 19) rfl rfl zba2 zba3 ?_
 refine pA 11 (some 20) rfl rfl zba2 zba3 ?_
 refine pA 12 (some 21) rfl rfl zba2 zba3 ?_
 refine pA 13 (some 22) rfl rfl zba2 zba3 ?_
 refine pA 14 (some 23) rfl rfl zba2 zba3 ?_
 refine pA 15 (some 24) rfl rfl zba2 zba3 ?_
 refine pA 16 (some 25) rfl rfl zba2 zba3 ?_
 refine pA 17 (some 26) rfl rfl zba2 zba3 ?_
 refine pA 22 (some 31) rfl rfl zba2 zba3 ?_
 refine tA 18 (some 27) rfl rfl (by rintro w' ⟨s0, s1⟩; go_simp; with_reducible rfl) hHeld zba3 ?_
 refine pA 19 (some 28) rfl rfl zba2 zba3 ?_
 refine tA 23 (some 32) rfl rfl (by rintro w' ⟨s0, s1⟩; go_simp; with_reducible rfl) hHeld zba3 ?_
 refine pA 24 (some 33) rfl rfl zba2 zba3 ?_
 refine join_ (σ := Nat × Nat × Nat) 1 #[true, true, true, true, true, true, true, true, true, true, true, true, true, true, true, true, true, true, true, true, true, true, true, true, true, true, true, false] (fun s => [(9, .slice (some ⟨s.1, 0, none⟩) 2 2), (12, .pointer (some ⟨s.1, d0, none⟩)), (13, .string (fG d0)), (29, .slice (some ⟨s.2.1, 0, none⟩) nb nb), (30, .string (zerosB nb)), (4, .pointer (some ⟨s.2.2, 0, none⟩)), (34, .agg #[.string (fG d0), .int .i64 y1, .int .i64 y2, .int .i64 (d3 : Int), .int .i64 0, .int .i64 0, .int .i64 0, .int .i64 0, .string (zerosB nb), .int .i64 (ix : Int), .slice none 0 0])]) (fun s w' => Below wd.heap.size wd w' ∧ w'.heap[s.1]? = some (.cells #[.string ⟨#[102]⟩, .string ⟨#[103]⟩] 9 (0, 0)) ∧ w'.heap[s.2.1]? = some (.cells (madeCells #[.int .u8 0] nb) 5 (0, 0)) ∧ w'.heap[s.2.2]? = some (.cells ZP 55 (0, 0)) ∧ wd.heap.size ≤ s.2.2) ?_ ?_
 rotate_left
 · intro hJ0_4_20_21_26
   refine join_ (σ := Nat × Nat × Nat) 2 #[true, true, true, true, true, true, true, true, true, true, true, true, true, true, true, true, true, true, true, true, true, true, true, true, true, true, false, false] (fun s => [(9, .slice (some ⟨s.1, 0, none⟩) 2 2), (12, .pointer (some ⟨s.1, d0, none⟩)), (13, .string (fG d0)), (29, .slice (some ⟨s.2.1, 0, none⟩) nb nb), (30, .string (zerosB nb)), (34, .agg #[.string (fG d0), .int .i64 y1, .int .i64 y2, .int .i64 (d3 : Int), .int .i64 0, .int .i64 0, .int .i64 0, .int .i64 0, .string (zerosB nb), .int .i64 (ix : Int), .slice none 0 0])]) (fun s w' => Below wd.heap.size wd w' ∧ w'.heap[s.1]? = some (.cells #[.string ⟨#[102]⟩, .string ⟨#[103]⟩] 9 (0, 0)) ∧ w'.heap[s.2.1]? = some (.cells (madeCells #[.int .u8 0] nb) 5 (0, 0))) ?_ ?_
   rotate_left
   · intro hJ0_4_20_21
     refine join_ (σ := Nat × Nat × Nat) 3 #[true, true, true, true, true, true, true, true, true, true, true, true, true, true, true, true, true, true, true, true, true, false, true, true, true, false, true, false] (fun s => [(9, .slice (some ⟨s.1, 0, none⟩) 2 2), (12, .pointer (some ⟨s.1, d0, none⟩)), (13, .string (fG d0)), (29, .slice (some ⟨s.2.1, 0, none⟩) nb nb), (4, .pointer (some ⟨s.2.2, 0, none⟩))]) (fun s w' => Below wd.heap.size wd w' ∧ w'.heap[s.1]? = some (.cells #[.string ⟨#[102]⟩, .string ⟨#[103]⟩] 9 (0, 0)) ∧ w'.heap[s.2.1]? = some (.cells (madeCells #[.int .u8 0] nb) 5 (0, 0)) ∧ w'.heap[s.2.2]? = some (.cells ZP 55 (0, 0)) ∧ wd.heap.size ≤ s.2.2) ?_ ?_
     rotate_left
     · intro hJ0_4_20_26
       refine join_ (σ := Nat × Nat × Nat) 3 #[true, true, true, true, false, true, true, true, true, true, true, true, true, true, true, true, true, true, true, true, true, true, true, true, true, false, true, false] (fun s => [(9, .slice (some ⟨s.1, 0, none⟩) 2 2), (12, .pointer (some ⟨s.1, d0, none⟩)), (29, .slice (some ⟨s.2.1, 0, none⟩) nb nb), (30, .string (zerosB nb)), (4, .pointer (some ⟨s.2.2, 0, none⟩))]) (fun s w' => Below wd.heap.size wd w' ∧ w'.heap[s.1]? = some (.cells #[.string ⟨#[102]⟩, .string ⟨#[103]⟩] 9 (0, 0)) ∧ w'.heap[s.2.1]? = some (.cells (madeCells #[.int .u8 0] nb) 5 (0, 0)) ∧ w'.heap[s.2.2]? = some (.cells ZP 55 (0, 0)) ∧ wd.heap.size ≤ s.2.2) ?_ ?_
       rotate_left
       · intro hJ0_20_21_26
         refine join_ (σ := Nat × Nat × Nat) 4 #[true, true, true, true, true, true, true, true, true, true, true, true, true, true, true, true, true, true, true, true, true, false, true, true, true, false, false, false] (fun s => [(9, .slice (some ⟨s.1, 0, none⟩) 2 2), (12, .pointer (some ⟨s.1, d0, none⟩)), (13, .string (fG d0)), (29, .slice (some ⟨s.2.1, 0, none⟩) nb nb)]) (fun s w' => Below wd.heap.size wd w' ∧ w'.heap[s.1]? = some (.cells #[.string ⟨#[102]⟩, .string ⟨#[103]⟩] 9 (0, 0)) ∧ w'.heap[s.2.1]? = some (.cells (madeCells #[.int .u8 0] nb) 5 (0, 0))) ?_ ?_
         rotate_left
         · intro hJ0_4_20
           refine join_ (σ := Nat × Nat × Nat) 4 #[true, true, true, true, true, true, true, true, true, true, true, true, true, true, true, true, true, true, true, true, false, false, true, true, true, false, true, false] (fun s => [(9, .slice (some ⟨s.1, 0, none⟩) 2 2), (12, .pointer (some ⟨s.1, d0, none⟩)), (13, .string (fG d0)), (4, .pointer (some ⟨s.2.2, 0, none⟩))]) (fun s w' => Below wd.heap.size wd w' ∧ w'.heap[s.1]? = some (.cells #[.string ⟨#[102]⟩, .string ⟨#[103]⟩] 9 (0, 0)) ∧ w'.heap[s.2.2]? = some (.cells ZP 55 (0, 0)) ∧ wd.heap.size ≤ s.2.2) ?_ ?_
           rotate_left
           · intro hJ0_4_26
             refine join_ (σ := Nat × Nat × Nat) 4 #[true, true, true, true, false, true, true, true, true, true, true, true, true, true, true, true, true, true, true, true, true, true, true, true, true, false, false, false] (fun s => [(9, .slice (some ⟨s.1, 0, none⟩) 2 2), (12, .pointer (some ⟨s.1, d0, none⟩)), (29, .slice (some ⟨s.2.1, 0, none⟩) nb nb), (30, .string (zerosB nb))]) (fun s w' => Below wd.heap.size wd w' ∧ w'.heap[s.1]? = some (.cells #[.string ⟨#[102]⟩, .string ⟨#[103]⟩] 9 (0, 0)) ∧ w'.heap[s.2.1]? = some (.cells (madeCells #[.int .u8 0] nb) 5 (0, 0))) ?_ ?_
             rotate_left
             · intro hJ0_20_21
               refine join_ (σ := Nat × Nat × Nat) 4 #[true, true, true, true, false, true, true, true, true, true, true, true, true, true, true, true, true, true, true, true, true, false, true, true, true, false, true, false] (fun s => [(9, .slice (some ⟨s.1, 0, none⟩) 2 2), (12, .pointer (some ⟨s.1, d0, none⟩)), (29, .slice (some ⟨s.2.1, 0, none⟩) nb nb), (4, .pointer (some ⟨s.2.2, 0, none⟩))]) (fun s w' => Below wd.heap.size wd w' ∧ w'.heap[s.1]? = some (.cells #[.string ⟨#[102]⟩, .string ⟨#[103]⟩] 9 (0, 0)) ∧ w'.heap[s.2.1]? = some (.cells (madeCells #[.int .u8 0] nb) 5 (0, 0)) ∧ w'.heap[s.2.2]? = some (.cells ZP 55 (0, 0)) ∧ wd.heap.size ≤ s.2.2) ?_ ?_
               rotate_left
               · intro hJ0_20_26
                 refine join_ (σ := Nat × Nat × Nat) 5 #[false, true, true, false, false, true, true, true, true, true, true, true, true, true, true, true, true, true, true, true, true, true, true, true, true, false, true, false] (fun s => [(29, .slice (some ⟨s.2.1, 0, none⟩) nb nb), (30, .string (zerosB nb)), (4, .pointer (some ⟨s.2.2, 0, none⟩))]) (fun s w' => Below wd.heap.size wd w' ∧ w'.heap[s.2.1]? = some (.cells (madeCells #[.int .u8 0] nb) 5 (0, 0)) ∧ w'.heap[s.2.2]? = some (.cells ZP 55 (0, 0)) ∧ wd.heap.size ≤ s.2.2) ?_ ?_
                 rotate_left
                 · intro hJ20_21_26
                   refine join_ (σ := Nat × Nat × Nat) 5 #[true, true, true, true, true, true, true, true, true, true, true, true, true, true, true, true, true, true, true, true, false, false, true, true, true, false, false, false] (fun s => [(9, .slice (some ⟨s.1, 0, none⟩) 2 2), (12, .pointer (some ⟨s.1, d0, none⟩)), (13, .string (fG d0))]) (fun s w' => Below wd.heap.size wd w' ∧ w'.heap[s.1]? = some (.cells #[.string ⟨#[102]⟩, .string ⟨#[103]⟩] 9 (0, 0))) ?_ ?_
                   rotate_left
                   · intro hJ0_4
                     refine join_ (σ := Nat × Nat × Nat) 5 #[true, true, true, true, false, true, true, true, true, true, true, true, true, true, true, true, true, true, true, true, true, false, true, true, true, false, false, false] (fun s => [(9, .slice (some ⟨s.1, 0, none⟩) 2 2), (12, .pointer (some ⟨s.1, d0, none⟩)), (29, .slice (some ⟨s.2.1, 0, none⟩) nb nb)]) (fun s w' => Below wd.heap.size wd w' ∧ w'.heap[s.1]? = some (.cells #[.string ⟨#[102]⟩, .string ⟨#[103]⟩] 9 (0, 0)) ∧ w'.heap[s.2.1]? = some (.cells (madeCells #[.int .u8 0] nb) 5 (0, 0))) ?_ ?_
                     rotate_left
                     · intro hJ0_20
                       refine join_ (σ := Nat × Nat × Nat) 5 #[true, true, true, true, false, true, true, true, true, true, true, true, true, true, true, true, true, true, true, true, false, false, true, true, true, false, true, false] (fun s => [(9, .slice (some ⟨s.1, 0, none⟩) 2 2), (12, .pointer (some ⟨s.1, d0, none⟩)), (4, .pointer (some ⟨s.2.2, 0, none⟩))]) (fun s w' => Below wd.heap.size wd w' ∧ w'.heap[s.1]? = some (.cells #[.string ⟨#[102]⟩, .string ⟨#[103]⟩] 9 (0, 0)) ∧ w'.heap[s.2.2]? = some (.cells ZP 55 (0, 0)) ∧ wd.heap.size ≤ s.2.2) ?_ ?_
                       rotate_left
                       · intro hJ0_26
                         refine join_ (σ := Nat × Nat × Nat) 6 #[false, true, true, false, false, true, true, true, true, true, true, true, true, true, true, true, true, true, true, true, true, true, true, true, true, false, false, false] (fun s => [(29, .slice (some ⟨s.2.1, 0, none⟩) nb nb), (30, .string (zerosB nb))]) (fun s w' => Below wd.heap.size wd w' ∧ w'.heap[s.2.1]? = some (.cells (madeCells #[.int .u8 0] nb) 5 (0, 0))) ?_ ?_
                         rotate_left
                         · intro hJ20_21
                           refine join_ (σ := Nat × Nat × Nat) 6 #[false, true, true, false, false, true, true, true, true, true, true, true, true, true, true, true, true, true, true, true, true, false, true, true, true, false, true, false] (fun s => [(29, .slice (some ⟨s.2.1, 0, none⟩) nb nb), (4, .pointer (some ⟨s.2.2, 0, none⟩))]) (fun s w' => Below wd.heap.size wd w' ∧ w'.heap[s.2.1]? = some (.cells (madeCells #[.int .u8 0] nb) 5 (0, 0)) ∧ w'.heap[s.2.2]? = some (.cells ZP 55 (0, 0)) ∧ wd.heap.size ≤ s.2.2) ?_ ?_
                           rotate_left
                           · intro hJ20_26
                             refine join_ (σ := Nat × Nat × Nat) 6 #[true, true, true, true, false, true, true, true, true, true, true, true, true, true, true, true, true, true, true, true, false, false, true, true, true, false, false, false] (fun s => [(9, .slice (some ⟨s.1, 0, none⟩) 2 2), (12, .pointer (some ⟨s.1, d0, none⟩))]) (fun s w' => Below wd.heap.size wd w' ∧ w'.heap[s.1]? = some (.cells #[.string ⟨#[102]⟩, .string ⟨#[103]⟩] 9 (0, 0))) ?_ ?_
                             rotate_left
                             · intro hJ0
                               refine join_ (σ := Nat × Nat × Nat) 7 #[false, true, true, false, false, true, true, true, true, true, true, true, true, true, true, true, true, true, true, true, true, false, true, true, true, false, false, false] (fun s => [(29, .slice (some ⟨s.2.1, 0, none⟩) nb nb)]) (fun s w' => Below wd.heap.size wd w' ∧ w'.heap[s.2.1]? = some (.cells (madeCells #[.int .u8 0] nb) 5 (0, 0))) ?_ ?_
                               rotate_left
                               · intro hJ20
                                 refine join_ (σ := Nat × Nat × Nat) 7 #[false, true, true, false, false, true, true, true, true, true, true, true, true, true, true, true, true, true, true, true, false, false, true, true, true, false, true, false] (fun s => [(4, .pointer (some ⟨s.2.2, 0, none⟩))]) (fun s w' => Below wd.heap.size wd w' ∧ w'.heap[s.2.2]? = some (.cells ZP 55 (0, 0)) ∧ wd.heap.size ≤ s.2.2) ?_ ?_
                                 rotate_left
                                 · intro hJ26
                                   refine three_ (i := 0) (j := 20) (k := 26) (Ni := some 9) (Nj := some 29) (Nk := some 4) #[true, true, true, false, false, true, true, true, true, true, true, true, true, true, true, true, true, true, true, true, false, false, true, true, true, false, false, false] #[false, true, true, false, false, true, true, true, true, true, true, true, true, true, true, true, true, true, true, true, true, false, true, true, true, false, false, false] #[false, true, true, false, false, true, true, true, true, true, true, true, true, true, true, true, true, true, true, true, false, false, true, true, true, false, true, false] rfl rfl rfl rfl rfl rfl (by kernel_rfl) (by decide) (by decide) (by decide) (fun K hK => ?_) (fun K hK => ?_) (fun K hK => ?_)
                                   · skip
                                     refine value_ (w1 := ?_) (v := ?_) (by rfl) rfl ?_ ?_
                                     rotate_left 2
                                     · go_simp
                                       constructor
                                       · rfl
                                       · rfl
                                     refine hK.out _ _ ⟨((below_alloc HBv.out (.cells #[.string ⟨#[102]⟩, .string ⟨#[103]⟩] 9 (0, 0))).cell lx).trans x1, ((below_alloc HBv.out (.cells #[.string ⟨#[102]⟩, .string ⟨#[103]⟩] 9 (0, 0))).cell lx).trans x2⟩ (fun hHeld => norm_ zba1 ?_)
                                     clear hK K
                                     refine pure_ (i := 3) (N := some 12) (v := ?_) (a' := ?_) #[true, true, true, true, false, true, true, true, true, true, true, true, true, true, true, true, true, true, true, true, false, false, true, true, true, false, false, false] rfl rfl (by kernel_rfl) (fun _ _ _ h => h) (Or.inl ⟨by rfl, ?_⟩) ?_ ?_
                                     rotate_left
                                     · intro w'
                                       go_simp
                                       with_reducible rfl
                                     rotate_left
                                     · simp only [Act.put, nS]
                                       rfl
                                     exact norm_ zba0 (hJ0 (wd.heap.size, 0, 0) _ ⟨(below_alloc HBv.out (.cells #[.string ⟨#[102]⟩, .string ⟨#[103]⟩] 9 (0, 0))), blk_new wd (.cells #[.string ⟨#[102]⟩, .string ⟨#[103]⟩] 9 (0, 0))⟩)
                                   · skip
                                     refine value_ (w1 := ?_) (v := ?_) (by rfl) rfl ?_ ?_
                                     rotate_left 2
                                     · go_simp
                                       constructor
                                       · rfl
                                       · rfl
                                     refine hK.out _ _ ⟨((below_alloc HBv.out _).cell lx).trans x1, ((below_alloc HBv.out _).cell lx).trans x2⟩ (fun hHeld => norm_ zba1 ?_)
                                     clear hK K
                                     exact norm_ zba0 (hJ20 (0, wd.heap.size, 0) _ ⟨(below_alloc HBv.out _), blk_new wd (.cells (madeCells #[.int .u8 0] nb) 5 (0, 0))⟩)
                                   · skip
                                     refine value_ (w1 := ?_) (v := ?_) (by rfl) rfl ?_ ?_
                                     rotate_left 2
                                     · go_simp
                                       constructor
                                       · rfl
                                       · rfl
                                     refine hK.out _ _ ⟨((below_alloc HBv.out _).cell lx).trans x1, ((below_alloc HBv.out _).cell lx).trans x2⟩ (fun hHeld => norm_ zba1 ?_)
                                     clear hK K
                                     exact norm_ zba0 (hJ26 (0, 0, wd.heap.size) _ ⟨(below_alloc HBv.out _), blk_new wd (.cells ZP 55 (0, 0)), HBv.out.size⟩)
                                 · skip
                                   rintro ⟨g0, g20, g26⟩ v ⟨hF, h26, hS⟩
                                   dsimp only at hF h26 hS ⊢
                                   have HBv := Lib.hid hF
                                   have H26 := Lib.hid h26
                                   have HGS := Lib.hid hS
                                   clear hF h26 hS
                                   refine norm_ (a' := ?_) ?_ ?_
                                   rotate_left
                                   · simp only [putAll, Act.put, nS]
                                     rfl
                                   refine two_ (i := 0) (j := 20) (Ni := some 9) (Nj := some 29) #[true, true, true, false, false, true, true, true, true, true, true, true, true, true, true, true, true, true, true, true, false, false, true, true, true, false, true, false] #[false, true, true, false, false, true, true, true, true, true, true, true, true, true, true, true, true, true, true, true, true, false, true, true, true, false, true, false] rfl rfl rfl rfl (by kernel_rfl) (by decide) (by decide) (fun K hK => ?_) (fun K hK => ?_)
                                   · skip
                                     refine value_ (w1 := ?_) (v := ?_) (by rfl) rfl ?_ ?_
                                     rotate_left 2
                                     · go_simp
                                       constructor
                                       · rfl
                                       · rfl
                                     refine hK.out _ _ ⟨((below_alloc HBv.out (.cells #[.string ⟨#[102]⟩, .string ⟨#[103]⟩] 9 (0, 0))).cell lx).trans x1, ((below_alloc HBv.out (.cells #[.string ⟨#[102]⟩, .string ⟨#[103]⟩] 9 (0, 0))).cell lx).trans x2⟩ (fun hHeld => norm_ zba1 ?_)
                                     clear hK K
                                     refine pure_ (i := 3) (N := some 12) (v := ?_) (a' := ?_) #[true, true, true, true, false, true, true, true, true, true, true, true, true, true, true, true, true, true, true, true, false, false, true, true, true, false, true, false] rfl rfl (by kernel_rfl) (fun _ _ _ h => h) (Or.inl ⟨by rfl, ?_⟩) ?_ ?_
                                     rotate_left
                                     · intro w'
                                       go_simp
                                       with_reducible rfl
                                     rotate_left
                                     · simp only [Act.put, nS]
                                       rfl
                                     exact norm_ zba0 (hJ0_26 (v.heap.size, g20, g26) _ ⟨(below_alloc HBv.out (.cells #[.string ⟨#[102]⟩, .string ⟨#[103]⟩] 9 (0, 0))), blk_new v (.cells #[.string ⟨#[102]⟩, .string ⟨#[103]⟩] 9 (0, 0)), blk_alloc H26.out (.cells #[.string ⟨#[102]⟩, .string ⟨#[103]⟩] 9 (0, 0)), HGS.out⟩)
                                   · skip
                                     refine value_ (w1 := ?_) (v := ?_) (by rfl) rfl ?_ ?_
                                     rotate_left 2
                                     · go_simp
                                       constructor
                                       · rfl
                                       · rfl
                                     refine hK.out _ _ ⟨((below_alloc HBv.out _).cell lx).trans x1, ((below_alloc HBv.out _).cell lx).trans x2⟩ (fun hHeld => norm_ zba1 ?_)
                                     clear hK K
                                     exact norm_ zba0 (hJ20_26 (g0, v.heap.size, g26) _ ⟨(below_alloc HBv.out _), blk_new v (.cells (madeCells #[.int .u8 0] nb) 5 (0, 0)), blk_alloc H26.out (.cells (madeCells #[.int .u8 0] nb) 5 (0, 0)), HGS.out⟩)
                               · skip
                                 rintro ⟨g0, g20, g26⟩ v ⟨hF, h20⟩
                                 dsimp only at hF h20 ⊢
                                 have HBv := Lib.hid hF
                                 have H20 := Lib.hid h20
                                 clear hF h20
                                 refine norm_ (a' := ?_) ?_ ?_
                                 rotate_left
                                 · simp only [putAll, Act.put, nS]
                                   rfl
                                 refine three_ (i := 0) (j := 21) (k := 26) (Ni := some 9) (Nj := some 30) (Nk := some 4) #[true, true, true, false, false, true, true, true, true, true, true, true, true, true, true, true, true, true, true, true, true, false, true, true, true, false, false, false] #[false, true, true, false, false, true, true, true, true, true, true, true, true, true, true, true, true, true, true, true, true, true, true, true, true, false, false, false] #[false, true, true, false, false, true, true, true, true, true, true, true, true, true, true, true, true, true, true, true, true, false, true, true, true, false, true, false] rfl rfl rfl rfl rfl rfl (by kernel_rfl) (by decide) (by decide) (by decide) (fun K hK => ?_) (fun K hK => ?_) (fun K hK => ?_)
                                 · skip
                                   refine value_ (w1 := ?_) (v := ?_) (by rfl) rfl ?_ ?_
                                   rotate_left 2
                                   · go_simp
                                     constructor
                                     · rfl
                                     · rfl
                                   refine hK.out _ _ ⟨((below_alloc HBv.out (.cells #[.string ⟨#[102]⟩, .string ⟨#[103]⟩] 9 (0, 0))).cell lx).trans x1, ((below_alloc HBv.out (.cells #[.string ⟨#[102]⟩, .string ⟨#[103]⟩] 9 (0, 0))).cell lx).trans x2⟩ (fun hHeld => norm_ zba1 ?_)
                                   clear hK K
                                   refine pure_ (i := 3) (N := some 12) (v := ?_) (a' := ?_) #[true, true, true, true, false, true, true, true, true, true, true, true, true, true, true, true, true, true, true, true, true, false, true, true, true, false, false, false] rfl rfl (by kernel_rfl) (fun _ _ _ h => h) (Or.inl ⟨by rfl, ?_⟩) ?_ ?_
                                   rotate_left
                                   · intro w'
                                     go_simp
                                     with_reducible rfl
                                   rotate_left
                                   · simp only [Act.put, nS]
                                     rfl
                                   exact norm_ zba0 (hJ0_20 (v.heap.size, g20, g26) _ ⟨(below_alloc HBv.out (.cells #[.string ⟨#[102]⟩, .string ⟨#[103]⟩] 9 (0, 0))), blk_new v (.cells #[.string ⟨#[102]⟩, .string ⟨#[103]⟩] 9 (0, 0)), blk_alloc H20.out (.cells #[.string ⟨#[102]⟩, .string ⟨#[103]⟩] 9 (0, 0))⟩)
                                 · skip
                                   have cv := zeros_conv H20.out
                                   refine value_ (w1 := ?_) (v := ?_) (by rfl) rfl ?_ ?_
                                   rotate_left 2
                                   · go_simp
                                     constructor
                                     · rfl
                                     · rfl
                                   clear cv
                                   refine hK.out _ _ ⟨(HBv.out.cell lx).trans x1, (HBv.out.cell lx).trans x2⟩ (fun hHeld => norm_ zba1 ?_)
                                   clear hK K
                                   exact norm_ zba0 (hJ20_21 (g0, g20, g26) _ ⟨HBv.out, H20.out⟩)
                                 · skip
                                   refine value_ (w1 := ?_) (v := ?_) (by rfl) rfl ?_ ?_
                                   rotate_left 2
                                   · go_simp
                                     constructor
                                     · rfl
                                     · rfl
                                   refine hK.out _ _ ⟨((below_alloc HBv.out _).cell lx).trans x1, ((below_alloc HBv.out _).cell lx).trans x2⟩ (fun hHeld => norm_ zba1 ?_)
                                   clear hK K
                                   exact norm_ zba0 (hJ20_26 (g0, g20, v.heap.size) _ ⟨(below_alloc HBv.out _), blk_alloc H20.out (.cells ZP 55 (0, 0)), blk_new v (.cells ZP 55 (0, 0)), HBv.out.size⟩)
                             · skip
                               rintro ⟨g0, g20, g26⟩ v ⟨hF, h0⟩
                               dsimp only at hF h0 ⊢
                               have HBv := Lib.hid hF
                               have H0 := Lib.hid h0
                               clear hF h0
                               refine norm_ (a' := ?_) ?_ ?_
                               rotate_left
                               · simp only [putAll, Act.put, nS]
                                 rfl
                               refine three_ (i := 4) (j := 20) (k := 26) (Ni := some 13) (Nj := some 29) (Nk := some 4) #[true, true, true, true, true, true, true, true, true, true, true, true, true, true, true, true, true, true, true, true, false, false, true, true, true, false, false, false] #[true, true, true, true, false, true, true, true, true, true, true, true, true, true, true, true, true, true, true, true, true, false, true, true, true, false, false, false] #[true, true, true, true, false, true, true, true, true, true, true, true, true, true, true, true, true, true, true, true, false, false, true, true, true, false, true, false] rfl rfl rfl rfl rfl rfl (by kernel_rfl) (by decide) (by decide) (by decide) (fun K hK => ?_) (fun K hK => ?_) (fun K hK => ?_)
                               · skip
                                 have cf := fg_cell H0.out d0 HD.out.1
                                 refine value_ (w1 := ?_) (v := ?_) (by rfl) rfl ?_ ?_
                                 rotate_left 2
                                 · go_simp
                                   constructor
                                   · rfl
                                   · rfl
                                 clear cf
                                 refine hK.out _ _ ⟨(HBv.out.cell lx).trans x1, (HBv.out.cell lx).trans x2⟩ (fun hHeld => norm_ zba1 ?_)
                                 clear hK K
                                 exact norm_ zba0 (hJ0_4 (g0, g20, g26) _ ⟨HBv.out, H0.out⟩)
                               · skip
                                 refine value_ (w1 := ?_) (v := ?_) (by rfl) rfl ?_ ?_
                                 rotate_left 2
                                 · go_simp
                                   constructor
                                   · rfl
                                   · rfl
                                 refine hK.out _ _ ⟨((below_alloc HBv.out _).cell lx).trans x1, ((below_alloc HBv.out _).cell lx).trans x2⟩ (fun hHeld => norm_ zba1 ?_)
                                 clear hK K
                                 exact norm_ zba0 (hJ0_20 (g0, v.heap.size, g26) _ ⟨(below_alloc HBv.out _), blk_alloc H0.out (.cells (madeCells #[.int .u8 0] nb) 5 (0, 0)), blk_new v (.cells (madeCells #[.int .u8 0] nb) 5 (0, 0))⟩)
                               · skip
                                 refine value_ (w1 := ?_) (v := ?_) (by rfl) rfl ?_ ?_
                                 rotate_left 2
                                 · go_simp
                                   constructor
                                   · rfl
                                   · rfl
                                 refine hK.out _ _ ⟨((below_alloc HBv.out _).cell lx).trans x1, ((below_alloc HBv.out _).cell lx).trans x2⟩ (fun hHeld => norm_ zba1 ?_)
                                 clear hK K
                                 exact norm_ zba0 (hJ0_26 (g0, g20, v.heap.size) _ ⟨(below_alloc HBv.out _), blk_alloc H0.out (.cells ZP 55 (0, 0)), blk_new v (.cells ZP 55 (0, 0)), HBv.out.size⟩)
                           · skip
                             rintro ⟨g0, g20, g26⟩ v ⟨hF, h20, h26, hS⟩
                             dsimp only at hF h20 h26 hS ⊢
                             have HBv := Lib.hid hF
                             have H20 := Lib.hid h20
                             have H26 := Lib.hid h26
                             have HGS := Lib.hid hS
                             clear hF h20 h26 hS
                             refine norm_ (a' := ?_) ?_ ?_
                             rotate_left
                             · simp only [putAll, Act.put, nS]
                               rfl
                             refine two_ (i := 0) (j := 21) (Ni := some 9) (Nj := some 30) #[true, true, true, false, false, true, true, true, true, true, true, true, true, true, true, true, true, true, true, true, true, false, true, true, true, false, true, false] #[false, true, true, false, false, true, true, true, true, true, true, true, true, true, true, true, true, true, true, true, true, true, true, true, true, false, true, false] rfl rfl rfl rfl (by kernel_rfl) (by decide) (by decide) (fun K hK => ?_) (fun K hK => ?_)
                             · skip
                               refine value_ (w1 := ?_) (v := ?_) (by rfl) rfl ?_ ?_
                               rotate_left 2
                               · go_simp
                                 constructor
                                 · rfl
                                 · rfl
                               refine hK.out _ _ ⟨((below_alloc HBv.out (.cells #[.string ⟨#[102]⟩, .string ⟨#[103]⟩] 9 (0, 0))).cell lx).trans x1, ((below_alloc HBv.out (.cells #[.string ⟨#[102]⟩, .string ⟨#[103]⟩] 9 (0, 0))).cell lx).trans x2⟩ (fun hHeld => norm_ zba1 ?_)
                               clear hK K
                               refine pure_ (i := 3) (N := some 12) (v := ?_) (a' := ?_) #[true, true, true, true, false, true, true, true, true, true, true, true, true, true, true, true, true, true, true, true, true, false, true, true, true, false, true, false] rfl rfl (by kernel_rfl) (fun _ _ _ h => h) (Or.inl ⟨by rfl, ?_⟩) ?_ ?_
                               rotate_left
                               · intro w'
                                 go_simp
                                 with_reducible rfl
                               rotate_left
                               · simp only [Act.put, nS]
                                 rfl
                               exact norm_ zba0 (hJ0_20_26 (v.heap.size, g20, g26) _ ⟨(below_alloc HBv.out (.cells #[.string ⟨#[102]⟩, .string ⟨#[103]⟩] 9 (0, 0))), blk_new v (.cells #[.string ⟨#[102]⟩, .string ⟨#[103]⟩] 9 (0, 0)), blk_alloc H20.out (.cells #[.string ⟨#[102]⟩, .string ⟨#[103]⟩] 9 (0, 0)), blk_alloc H26.out (.cells #[.string ⟨#[102]⟩, .string ⟨#[103]⟩] 9 (0, 0)), HGS.out⟩)
                             · skip
                               have cv := zeros_conv H20.out
                               refine value_ (w1 := ?_) (v := ?_) (by rfl) rfl ?_ ?_
                               rotate_left 2
                               · go_simp
                                 constructor
                                 · rfl
                                 · rfl
                               clear cv
                               refine hK.out _ _ ⟨(HBv.out.cell lx).trans x1, (HBv.out.cell lx).trans x2⟩ (fun hHeld => norm_ zba1 ?_)
                               clear hK K
                               exact norm_ zba0 (hJ20_21_26 (g0, g20, g26) _ ⟨HBv.out, H20.out, H26.out, HGS.out⟩)
                         · skip
                           rintro ⟨g0, g20, g26⟩ v ⟨hF, h20⟩
                           dsimp only at hF h20 ⊢
                           have HBv := Lib.hid hF
                           have H20 := Lib.hid h20
                           clear hF h20
                           refine norm_ (a' := ?_) ?_ ?_
                           rotate_left
                           · simp only [putAll, Act.put, nS]
                             rfl
                           refine two_ (i := 0) (j := 26) (Ni := some 9) (Nj := some 4) #[true, true, true, false, false, true, true, true, true, true, true, true, true, true, true, true, true, true, true, true, true, true, true, true, true, false, false, false] #[false, true, true, false, false, true, true, true, true, true, true, true, true, true, true, true, true, true, true, true, true, true, true, true, true, false, true, false] rfl rfl rfl rfl (by kernel_rfl) (by decide) (by decide) (fun K hK => ?_) (fun K hK => ?_)
                           · skip
                             refine value_ (w1 := ?_) (v := ?_) (by rfl) rfl ?_ ?_
                             rotate_left 2
                             · go_simp
                               constructor
                               · rfl
                               · rfl
                             refine hK.out _ _ ⟨((below_alloc HBv.out (.cells #[.string ⟨#[102]⟩, .string ⟨#[103]⟩] 9 (0, 0))).cell lx).trans x1, ((below_alloc HBv.out (.cells #[.string ⟨#[102]⟩, .string ⟨#[103]⟩] 9 (0, 0))).cell lx).trans x2⟩ (fun hHeld => norm_ zba1 ?_)
                             clear hK K
                             refine pure_ (i := 3) (N := some 12) (v := ?_) (a' := ?_) #[true, true, true, true, false, true, true, true, true, true, true, true, true, true, true, true, true, true, true, true, true, true, true, true, true, false, false, false] rfl rfl (by kernel_rfl) (fun _ _ _ h => h) (Or.inl ⟨by rfl, ?_⟩) ?_ ?_
                             rotate_left
                             · intro w'
                               go_simp
                               with_reducible rfl
                             rotate_left
                             · simp only [Act.put, nS]
                               rfl
                             exact norm_ zba0 (hJ0_20_21 (v.heap.size, g20, g26) _ ⟨(below_alloc HBv.out (.cells #[.string ⟨#[102]⟩, .string ⟨#[103]⟩] 9 (0, 0))), blk_new v (.cells #[.string ⟨#[102]⟩, .string ⟨#[103]⟩] 9 (0, 0)), blk_alloc H20.out (.cells #[.string ⟨#[102]⟩, .string ⟨#[103]⟩] 9 (0, 0))⟩)
                           · skip
                             refine value_ (w1 := ?_) (v := ?_) (by rfl) rfl ?_ ?_
                             rotate_left 2
                             · go_simp
                               constructor
                               · rfl
                               · rfl
                             refine hK.out _ _ ⟨((below_alloc HBv.out _).cell lx).trans x1, ((below_alloc HBv.out _).cell lx).trans x2⟩ (fun hHeld => norm_ zba1 ?_)
                             clear hK K
                             exact norm_ zba0 (hJ20_21_26 (g0, g20, v.heap.size) _ ⟨(below_alloc HBv.out _), blk_alloc H20.out (.cells ZP 55 (0, 0)), blk_new v (.cells ZP 55 (0, 0)), HBv.out.size⟩)
                       · skip
                         rintro ⟨g0, g20, g26⟩ v ⟨hF, h0, h26, hS⟩
                         dsimp only at hF h0 h26 hS ⊢
                         have HBv := Lib.hid hF
                         have H0 := Lib.hid h0
                         have H26 := Lib.hid h26
                         have HGS := Lib.hid hS
                         clear hF h0 h26 hS
                         refine norm_ (a' := ?_) ?_ ?_
                         rotate_left
                         · simp only [putAll, Act.put, nS]
                           rfl
                         refine two_ (i := 4) (j := 20) (Ni := some 13) (Nj := some 29) #[true, true, true, true, true, true, true, true, true, true, true, true, true, true, true, true, true, true, true, true, false, false, true, true, true, false, true, false] #[true, true, true, true, false, true, true, true, true, true, true, true, true, true, true, true, true, true, true, true, true, false, true, true, true, false, true, false] rfl rfl rfl rfl (by kernel_rfl) (by decide) (by decide) (fun K hK => ?_) (fun K hK => ?_)
                         · skip
                           have cf := fg_cell H0.out d0 HD.out.1
                           refine value_ (w1 := ?_) (v := ?_) (by rfl) rfl ?_ ?_
                           rotate_left 2
                           · go_simp
                             constructor
                             · rfl
                             · rfl
                           clear cf
                           refine hK.out _ _ ⟨(HBv.out.cell lx).trans x1, (HBv.out.cell lx).trans x2⟩ (fun hHeld => norm_ zba1 ?_)
                           clear hK K
                           exact norm_ zba0 (hJ0_4_26 (g0, g20, g26) _ ⟨HBv.out, H0.out, H26.out, HGS.out⟩)
                         · skip
                           refine value_ (w1 := ?_) (v := ?_) (by rfl) rfl ?_ ?_
                           rotate_left 2
                           · go_simp
                             constructor
                             · rfl
                             · rfl
                           refine hK.out _ _ ⟨((below_alloc HBv.out _).cell lx).trans x1, ((below_alloc HBv.out _).cell lx).trans x2⟩ (fun hHeld => norm_ zba1 ?_)
                           clear hK K
                           exact norm_ zba0 (hJ0_20_26 (g0, v.heap.size, g26) _ ⟨(below_alloc HBv.out _), blk_alloc H0.out (.cells (madeCells #[.int .u8 0] nb) 5 (0, 0)), blk_new v (.cells (madeCells #[.int .u8 0] nb) 5 (0, 0)), blk_alloc H26.out (.cells (madeCells #[.int .u8 0] nb) 5 (0, 0)), HGS.out⟩)
                     · skip
                       rintro ⟨g0, g20, g26⟩ v ⟨hF, h0, h20⟩
                       dsimp only at hF h0 h20 ⊢
                       have HBv := Lib.hid hF
                       have H0 := Lib.hid h0
                       have H20 := Lib.hid h20
                       clear hF h0 h20
                       refine norm_ (a' := ?_) ?_ ?_
                       rotate_left
                       · simp only [putAll, Act.put, nS]
                         rfl
                       refine three_ (i := 4) (j := 21) (k := 26) (Ni := some 13) (Nj := some 30) (Nk := some 4) #[true, true, true, true, true, true, true, true, true, true, true, true, true, true, true, true, true, true, true, true, true, false, true, true, true, false, false, false] #[true, true, true, true, false, true, true, true, true, true, true, true, true, true, true, true, true, true, true, true, true, true, true, true, true, false, false, false] #[true, true, true, true, false, true, true, true, true, true, true, true, true, true, true, true, true, true, true, true, true, false, true, true, true, false, true, false] rfl rfl rfl rfl rfl rfl (by kernel_rfl) (by decide) (by decide) (by decide) (fun K hK => ?_) (fun K hK => ?_) (fun K hK => ?_)
                       · skip
                         have cf := fg_cell H0.out d0 HD.out.1
                         refine value_ (w1 := ?_) (v := ?_) (by rfl) rfl ?_ ?_
                         rotate_left 2
                         · go_simp
                           constructor
                           · rfl
                           · rfl
                         clear cf
                         refine hK.out _ _ ⟨(HBv.out.cell lx).trans x1, (HBv.out.cell lx).trans x2⟩ (fun hHeld => norm_ zba1 ?_)
                         clear hK K
                         exact norm_ zba0 (hJ0_4_20 (g0, g20, g26) _ ⟨HBv.out, H0.out, H20.out⟩)
                       · skip
                         have cv := zeros_conv H20.out
                         refine value_ (w1 := ?_) (v := ?_) (by rfl) rfl ?_ ?_
                         rotate_left 2
                         · go_simp
                           constructor
                           · rfl
                           · rfl
                         clear cv
                         refine hK.out _ _ ⟨(HBv.out.cell lx).trans x1, (HBv.out.cell lx).trans x2⟩ (fun hHeld => norm_ zba1 ?_)
                         clear hK K
                         exact norm_ zba0 (hJ0_20_21 (g0, g20, g26) _ ⟨HBv.out, H0.out, H20.out⟩)
                       · skip
                         refine value_ (w1 := ?_) (v := ?_) (by rfl) rfl ?_ ?_
                         rotate_left 2
                         · go_simp
                           constructor
                           · rfl
                           · rfl
                         refine hK.out _ _ ⟨((below_alloc HBv.out _).cell lx).trans x1, ((below_alloc HBv.out _).cell lx).trans x2⟩ (fun hHeld => norm_ zba1 ?_)
                         clear hK K
                         exact norm_ zba0 (hJ0_20_26 (g0, g20, v.heap.size) _ ⟨(below_alloc HBv.out _), blk_alloc H0.out (.cells ZP 55 (0, 0)), blk_alloc H20.out (.cells ZP 55 (0, 0)), blk_new v (.cells ZP 55 (0, 0)), HBv.out.size⟩)
                   · skip
                     rintro ⟨g0, g20, g26⟩ v ⟨hF, h0⟩
                     dsimp only at hF h0 ⊢
                     have HBv := Lib.hid hF
                     have H0 := Lib.hid h0
                     clear hF h0
                     refine norm_ (a' := ?_) ?_ ?_
                     rotate_left
                     · simp only [putAll, Act.put, nS]
                       rfl
                     refine two_ (i := 20) (j := 26) (Ni := some 29) (Nj := some 4) #[true, true, true, true, true, true, true, true, true, true, true, true, true, true, true, true, true, true, true, true, true, false, true, true, true, false, false, false] #[true, true, true, true, true, true, true, true, true, true, true, true, true, true, true, true, true, true, true, true, false, false, true, true, true, false, true, false] rfl rfl rfl rfl (by kernel_rfl) (by decide) (by decide) (fun K hK => ?_) (fun K hK => ?_)
                     · skip
                       refine value_ (w1 := ?_) (v := ?_) (by rfl) rfl ?_ ?_
                       rotate_left 2
                       · go_simp
                         constructor
                         · rfl
                         · rfl
                       refine hK.out _ _ ⟨((below_alloc HBv.out _).cell lx).trans x1, ((below_alloc HBv.out _).cell lx).trans x2⟩ (fun hHeld => norm_ zba1 ?_)
                       clear hK K
                       exact norm_ zba0 (hJ0_4_20 (g0, v.heap.size, g26) _ ⟨(below_alloc HBv.out _), blk_alloc H0.out (.cells (madeCells #[.int .u8 0] nb) 5 (0, 0)), blk_new v (.cells (madeCells #[.int .u8 0] nb) 5 (0, 0))⟩)
                     · skip
                       refine value_ (w1 := ?_) (v := ?_) (by rfl) rfl ?_ ?_
                       rotate_left 2
                       · go_simp
                         constructor
                         · rfl
                         · rfl
                       refine hK.out _ _ ⟨((below_alloc HBv.out _).cell lx).trans x1, ((below_alloc HBv.out _).cell lx).trans x2⟩ (fun hHeld => norm_ zba1 ?_)
                       clear hK K
                       exact norm_ zba0 (hJ0_4_26 (g0, g20, v.heap.size) _ ⟨(below_alloc HBv.out _), blk_alloc H0.out (.cells ZP 55 (0, 0)), blk_new v (.cells ZP 55 (0, 0)), HBv.out.size⟩)
                 · skip
                   rintro ⟨g0, g20, g26⟩ v ⟨hF, h20, h26, hS⟩
                   dsimp only at hF h20 h26 hS ⊢
                   have HBv := Lib.hid hF
                   have H20 := Lib.hid h20
                   have H26 := Lib.hid h26
                   have HGS := Lib.hid hS
                   clear hF h20 h26 hS
                   refine norm_ (a' := ?_) ?_ ?_
                   rotate_left
                   · simp only [putAll, Act.put, nS]
                     rfl
                   refine one_ (i := 0) (N := some 9) #[true, true, true, false, false, true, true, true, true, true, true, true, true, true, true, true, true, true, true, true, true, true, true, true, true, false, true, false] rfl rfl (by kernel_rfl) (by decide) (fun K hK => ?_)
                   refine value_ (w1 := ?_) (v := ?_) (by rfl) rfl ?_ ?_
                   rotate_left 2
                   · go_simp
                     constructor
                     · rfl
                     · rfl
                   refine hK.out _ _ ⟨((below_alloc HBv.out (.cells #[.string ⟨#[102]⟩, .string ⟨#[103]⟩] 9 (0, 0))).cell lx).trans x1, ((below_alloc HBv.out (.cells #[.string ⟨#[102]⟩, .string ⟨#[103]⟩] 9 (0, 0))).cell lx).trans x2⟩ (fun hHeld => norm_ zba1 ?_)
                   clear hK K
                   refine pure_ (i := 3) (N := some 12) (v := ?_) (a' := ?_) #[true, true, true, true, false, true, true, true, true, true, true, true, true, true, true, true, true, true, true, true, true, true, true, true, true, false, true, false] rfl rfl (by kernel_rfl) (fun _ _ _ h => h) (Or.inl ⟨by rfl, ?_⟩) ?_ ?_
                   rotate_left
                   · intro w'
                     go_simp
                     with_reducible rfl
                   rotate_left
                   · simp only [Act.put, nS]
                     rfl
                   exact norm_ zba0 (hJ0_20_21_26 (v.heap.size, g20, g26) _ ⟨(below_alloc HBv.out (.cells #[.string ⟨#[102]⟩, .string ⟨#[103]⟩] 9 (0, 0))), blk_new v (.cells #[.string ⟨#[102]⟩, .string ⟨#[103]⟩] 9 (0, 0)), blk_alloc H20.out (.cells #[.string ⟨#[102]⟩, .string ⟨#[103]⟩] 9 (0, 0)), blk_alloc H26.out (.cells #[.string ⟨#[102]⟩, .string ⟨#[103]⟩] 9 (0, 0)), HGS.out⟩)
               · skip
                 rintro ⟨g0, g20, g26⟩ v ⟨hF, h0, h20, h26, hS⟩
                 dsimp only at hF h0 h20 h26 hS ⊢
                 have HBv := Lib.hid hF
                 have H0 := Lib.hid h0
                 have H20 := Lib.hid h20
                 have H26 := Lib.hid h26
                 have HGS := Lib.hid hS
                 clear hF h0 h20 h26 hS
                 refine norm_ (a' := ?_) ?_ ?_
                 rotate_left
                 · simp only [putAll, Act.put, nS]
                   rfl
                 refine two_ (i := 4) (j := 21) (Ni := some 13) (Nj := some 30) #[true, true, true, true, true, true, true, true, true, true, true, true, true, true, true, true, true, true, true, true, true, false, true, true, true, false, true, false] #[true, true, true, true, false, true, true, true, true, true, true, true, true, true, true, true, true, true, true, true, true, true, true, true, true, false, true, false] rfl rfl rfl rfl (by kernel_rfl) (by decide) (by decide) (fun K hK => ?_) (fun K hK => ?_)
                 · skip
                   have cf := fg_cell H0.out d0 HD.out.1
                   refine value_ (w1 := ?_) (v := ?_) (by rfl) rfl ?_ ?_
                   rotate_left 2
                   · go_simp
                     constructor
                     · rfl
                     · rfl
                   clear cf
                   refine hK.out _ _ ⟨(HBv.out.cell lx).trans x1, (HBv.out.cell lx).trans x2⟩ (fun hHeld => norm_ zba1 ?_)
                   clear hK K
                   exact norm_ zba0 (hJ0_4_20_26 (g0, g20, g26) _ ⟨HBv.out, H0.out, H20.out, H26.out, HGS.out⟩)
                 · skip
                   have cv := zeros_conv H20.out
                   refine value_ (w1 := ?_) (v := ?_) (by rfl) rfl ?_ ?_
                   rotate_left 2
                   · go_simp
                     constructor
                     · rfl
                     · rfl
                   clear cv
                   refine hK.out _ _ ⟨(HBv.out.cell lx).trans x1, (HBv.out.cell lx).trans x2⟩ (fun hHeld => norm_ zba1 ?_)
                   clear hK K
                   exact norm_ zba0 (hJ0_20_21_26 (g0, g20, g26) _ ⟨HBv.out, H0.out, H20.out, H26.out, HGS.out⟩)
             · skip
               rintro ⟨g0, g20, g26⟩ v ⟨hF, h0, h20⟩
               dsimp only at hF h0 h20 ⊢
               have HBv := Lib.hid hF
               have H0 := Lib.hid h0
               have H20 := Lib.hid h20
               clear hF h0 h20
               refine norm_ (a' := ?_) ?_ ?_
               rotate_left
               · simp only [putAll, Act.put, nS]
                 rfl
               refine two_ (i := 4) (j := 26) (Ni := some 13) (Nj := some 4) #[true, true, true, true, true, true, true, true, true, true, true, true, true, true, true, true, true, true, true, true, true, true, true, true, true, false, false, false] #[true, true, true, true, false, true, true, true, true, true, true, true, true, true, true, true, true, true, true, true, true, true, true, true, true, false, true, false] rfl rfl rfl rfl (by kernel_rfl) (by decide) (by decide) (fun K hK => ?_) (fun K hK => ?_)
               · skip
                 have cf := fg_cell H0.out d0 HD.out.1
                 refine value_ (w1 := ?_) (v := ?_) (by rfl) rfl ?_ ?_
                 rotate_left 2
                 · go_simp
                   constructor
                   · rfl
                   · rfl
                 clear cf
                 refine hK.out _ _ ⟨(HBv.out.cell lx).trans x1, (HBv.out.cell lx).trans x2⟩ (fun hHeld => norm_ zba1 ?_)
                 clear hK K
                 refine pure_ (i := 25) (N := some 34) (v := ?_) (a' := ?_) #[true, true, true, true, true, true, true, true, true, true, true, true, true, true, true, true, true, true, true, true, true, true, true, true, true, true, false, false] rfl rfl (by kernel_rfl) (fun _ _ _ h => h) (Or.inl ⟨by rfl, ?_⟩) ?_ ?_
                 rotate_left
                 · intro w'
                   go_simp
                   with_reducible rfl
                 rotate_left
                 · simp only [Act.put, nS]
                   rfl
                 exact norm_ zba0 (hJ0_4_20_21 (g0, g20, g26) _ ⟨HBv.out, H0.out, H20.out⟩)
               · skip
                 refine value_ (w1 := ?_) (v := ?_) (by rfl) rfl ?_ ?_
                 rotate_left 2
                 · go_simp
                   constructor
                   · rfl
                   · rfl
                 refine hK.out _ _ ⟨((below_alloc HBv.out _).cell lx).trans x1, ((below_alloc HBv.out _).cell lx).trans x2⟩ (fun hHeld => norm_ zba1 ?_)
                 clear hK K
                 exact norm_ zba0 (hJ0_20_21_26 (g0, g20, v.heap.size) _ ⟨(below_alloc HBv.out _), blk_alloc H0.out (.cells ZP 55 (0, 0)), blk_alloc H20.out (.cells ZP 55 (0, 0)), blk_new v (.cells ZP 55 (0, 0)), HBv.out.size⟩)
           · skip
             rintro ⟨g0, g20, g26⟩ v ⟨hF, h0, h26, hS⟩
             dsimp only at hF h0 h26 hS ⊢
             have HBv := Lib.hid hF
             have H0 := Lib.hid h0
             have H26 := Lib.hid h26
             have HGS := Lib.hid hS
             clear hF h0 h26 hS
             refine norm_ (a' := ?_) ?_ ?_
             rotate_left
             · simp only [putAll, Act.put, nS]
               rfl
             refine one_ (i := 20) (N := some 29) #[true, true, true, true, true, true, true, true, true, true, true, true, true, true, true, true, true, true, true, true, true, false, true, true, true, false, true, false] rfl rfl (by kernel_rfl) (by decide) (fun K hK => ?_)
             refine value_ (w1 := ?_) (v := ?_) (by rfl) rfl ?_ ?_
             rotate_left 2
             · go_simp
               constructor
               · rfl
               · rfl
             refine hK.out _ _ ⟨((below_alloc HBv.out _).cell lx).trans x1, ((below_alloc HBv.out _).cell lx).trans x2⟩ (fun hHeld => norm_ zba1 ?_)
             clear hK K
             exact norm_ zba0 (hJ0_4_20_26 (g0, v.heap.size, g26) _ ⟨(below_alloc HBv.out _), blk_alloc H0.out (.cells (madeCells #[.int .u8 0] nb) 5 (0, 0)), blk_new v (.cells (madeCells #[.int .u8 0] nb) 5 (0, 0)), blk_alloc H26.out (.cells (madeCells #[.int .u8 0] nb) 5 (0, 0)), HGS.out⟩)
         · skip
           rintro ⟨g0, g20, g26⟩ v ⟨hF, h0, h20⟩
           dsimp only at hF h0 h20 ⊢
           have HBv := Lib.hid hF
           have H0 := Lib.hid h0
           have H20 := Lib.hid h20
           clear hF h0 h20
           refine norm_ (a' := ?_) ?_ ?_
           rotate_left
           · simp only [putAll, Act.put, nS]
             rfl
           refine two_ (i := 21) (j := 26) (Ni := some 30) (Nj := some 4) #[true, true, true, true, true, true, true, true, true, true, true, true, true, true, true, true, true, true, true, true, true, true, true, true, true, false, false, false] #[true, true, true, true, true, true, true, true, true, true, true, true, true, true, true, true, true, true, true, true, true, false, true, true, true, false, true, false] rfl rfl rfl rfl (by kernel_rfl) (by decide) (by decide) (fun K hK => ?_) (fun K hK => ?_)
           · skip
             have cv := zeros_conv H20.out
             refine value_ (w1 := ?_) (v := ?_) (by rfl) rfl ?_ ?_
             rotate_left 2
             · go_simp
               constructor
               · rfl
               · rfl
             clear cv
             refine hK.out _ _ ⟨(HBv.out.cell lx).trans x1, (HBv.out.cell lx).trans x2⟩ (fun hHeld => norm_ zba1 ?_)
             clear hK K
             refine pure_ (i := 25) (N := some 34) (v := ?_) (a' := ?_) #[true, true, true, true, true, true, true, true, true, true, true, true, true, true, true, true, true, true, true, true, true, true, true, true, true, true, false, false] rfl rfl (by kernel_rfl) (fun _ _ _ h => h) (Or.inl ⟨by rfl, ?_⟩) ?_ ?_
             rotate_left
             · intro w'
               go_simp
               with_reducible rfl
             rotate_left
             · simp only [Act.put, nS]
               rfl
             exact norm_ zba0 (hJ0_4_20_21 (g0, g20, g26) _ ⟨HBv.out, H0.out, H20.out⟩)
           · skip
             refine value_ (w1 := ?_) (v := ?_) (by rfl) rfl ?_ ?_
             rotate_left 2
             · go_simp
               constructor
               · rfl
               · rfl
             refine hK.out _ _ ⟨((below_alloc HBv.out _).cell lx).trans x1, ((below_alloc HBv.out _).cell lx).trans x2⟩ (fun hHeld => norm_ zba1 ?_)
             clear hK K
             exact norm_ zba0 (hJ0_4_20_26 (g0, g20, v.heap.size) _ ⟨(below_alloc HBv.out _), blk_alloc H0.out (.cells ZP 55 (0, 0)), blk_alloc H20.out (.cells ZP 55 (0, 0)), blk_new v (.cells ZP 55 (0, 0)), HBv.out.size⟩)
       · skip
         rintro ⟨g0, g20, g26⟩ v ⟨hF, h0, h20, h26, hS⟩
         dsimp only at hF h0 h20 h26 hS ⊢
         have HBv := Lib.hid hF
         have H0 := Lib.hid h0
         have H20 := Lib.hid h20
         have H26 := Lib.hid h26
         have HGS := Lib.hid hS
         clear hF h0 h20 h26 hS
         refine norm_ (a' := ?_) ?_ ?_
         rotate_left
         · simp only [putAll, Act.put, nS]
           rfl
         refine one_ (i := 4) (N := some 13) #[true, true, true, true, true, true, true, true, true, true, true, true, true, true, true, true, true, true, true, true, true, true, true, true, true, false, true, false] rfl rfl (by kernel_rfl) (by decide) (fun K hK => ?_)
         have cf := fg_cell H0.out d0 HD.out.1
         refine value_ (w1 := ?_) (v := ?_) (by rfl) rfl ?_ ?_
         rotate_left 2
         · go_simp
           constructor
           · rfl
           · rfl
         clear cf
         refine hK.out _ _ ⟨(HBv.out.cell lx).trans x1, (HBv.out.cell lx).trans x2⟩ (fun hHeld => norm_ zba1 ?_)
         clear hK K
         refine pure_ (i := 25) (N := some 34) (v := ?_) (a' := ?_) #[true, true, true, true, true, true, true, true, true, true, true, true, true, true, true, true, true, true, true, true, true, true, true, true, true, true, true, false] rfl rfl (by kernel_rfl) (fun _ _ _ h => h) (Or.inl ⟨by rfl, ?_⟩) ?_ ?_
         rotate_left
         · intro w'
           go_simp
           with_reducible rfl
         rotate_left
         · simp only [Act.put, nS]
           rfl
         exact norm_ zba0 (hJ0_4_20_21_26 (g0, g20, g26) _ ⟨HBv.out, H0.out, H20.out, H26.out, HGS.out⟩)
     · skip
       rintro ⟨g0, g20, g26⟩ v ⟨hF, h0, h20, h26, hS⟩
       dsimp only at hF h0 h20 h26 hS ⊢
       have HBv := Lib.hid hF
       have H0 := Lib.hid h0
       have H20 := Lib.hid h20
       have H26 := Lib.hid h26
       have HGS := Lib.hid hS
       clear hF h0 h20 h26 hS
       refine norm_ (a' := ?_) ?_ ?_
       rotate_left
       · simp only [putAll, Act.put, nS]
         rfl
       refine one_ (i := 21) (N := some 30) #[true, true, true, true, true, true, true, true, true, true, true, true, true, true, true, true, true, true, true, true, true, true, true, true, true, false, true, false] rfl rfl (by kernel_rfl) (by decide) (fun K hK => ?_)
       have cv := zeros_conv H20.out
       refine value_ (w1 := ?_) (v := ?_) (by rfl) rfl ?_ ?_
       rotate_left 2
       · go_simp
         constructor
         · rfl
         · rfl
       clear cv
       refine hK.out _ _ ⟨(HBv.out.cell lx).trans x1, (HBv.out.cell lx).trans x2⟩ (fun hHeld => norm_ zba1 ?_)
       clear hK K
       refine pure_ (i := 25) (N := some 34) (v := ?_) (a' := ?_) #[true, true, true, true, true, true, true, true, true, true, true, true, true, true, true, true, true, true, true, true, true, true, true, true, true, true, true, false] rfl rfl (by kernel_rfl) (fun _ _ _ h => h) (Or.inl ⟨by rfl, ?_⟩) ?_ ?_
       rotate_left
       · intro w'
         go_simp
         with_reducible rfl
       rotate_left
       · simp only [Act.put, nS]
         rfl
       exact norm_ zba0 (hJ0_4_20_21_26 (g0, g20, g26) _ ⟨HBv.out, H0.out, H20.out, H26.out, HGS.out⟩)
   · skip
     rintro ⟨g0, g20, g26⟩ v ⟨hF, h0, h20⟩
     dsimp only at hF h0 h20 ⊢
     have HBv := Lib.hid hF
     have H0 := Lib.hid h0
     have H20 := Lib.hid h20
     clear hF h0 h20
     refine norm_ (a' := ?_) ?_ ?_
     rotate_left
     · simp only [putAll, Act.put, nS]
       rfl
     refine one_ (i := 26) (N := some 4) #[true, true, true, true, true, true, true, true, true, true, true, true, true, true, true, true, true, true, true, true, true, true, true, true, true, true, true, false] rfl rfl (by kernel_rfl) (by decide) (fun K hK => ?_)
     refine value_ (w1 := ?_) (v := ?_) (by rfl) rfl ?_ ?_
     rotate_left 2
     · go_simp
       constructor
       · rfl
       · rfl
     refine hK.out _ _ ⟨((below_alloc HBv.out _).cell lx).trans x1, ((below_alloc HBv.out _).cell lx).trans x2⟩ (fun hHeld => norm_ zba1 ?_)
     clear hK K
     exact norm_ zba0 (hJ0_4_20_21_26 (g0, g20, v.heap.size) _ ⟨(below_alloc HBv.out _), blk_alloc H0.out (.cells ZP 55 (0, 0)), blk_alloc H20.out (.cells ZP 55 (0, 0)), blk_new v (.cells ZP 55 (0, 0)), HBv.out.size⟩)
 rintro ⟨g0, g20, G⟩ v ⟨hF, h0, h20, h26, hS⟩
 dsimp only at hF h0 h20 h26 hS ⊢
 have HBv := Lib.hid hF
 have H0 := Lib.hid h0
 have H20 := Lib.hid h20
 have H26 := Lib.hid h26
 have HGS := Lib.hid hS
 clear hF h0 h20 h26 hS
 refine norm_ (a' := ?_) ?_ ?_
 rotate_left
 · simp only [putAll, Act.put, nS]
   rfl
 refine last_ (i := 27) (N := none) #[true, true, true, true, true, true, true, true, true, true, true, true, true, true, true, true, true, true, true, true, true, true, true, true, true, true, true, true] rfl rfl (by kernel_rfl) (by decide) (fun K hK => ?_)
 refine store_ (by rfl) rfl 55 (.tmp 4) (.tmp 34) rfl G 0 #[.string (fG d0), .int .i64 y1, .int .i64 y2, .int .i64 (d3 : Int), .int .i64 0, .int .i64 0, .int .i64 0, .int .i64 0, .string (zerosB nb), .int .i64 (ix : Int), .slice none 0 0] rfl rfl (there_blk H26.out rfl) (inf11 rfl) one11 ?_
 refine hK.out _ _ ?_
 clear hK K
 refine done_ (by kernel_rfl) ?_
 clear ma mb wmb xmb mc md wmd xmd me mf wmf xmf mg ml mm mn_ mo hmk i1 i2 i3
 have hZ0 := blk_lt HZd.out
 have hn1 : w.heap.size ≠ G := fun e => by have := HGS.out; omega
 have hn2 : w.heap.size + 1 ≠ G := fun e => by have := HGS.out; omega
 have HG1 := Lib.hid (show w.heap.size + 1 < G from by have := HGS.out; omega)
 have HM := Lib.hid (show MSt w q0 q1 q2 G #[.string (fG d0), .int .i64 y1, .int .i64 y2, .int .i64 (d3 : Int), .int .i64 0, .int .i64 0, .int .i64 0, .int .i64 0, .string (zerosB nb), .int .i64 (ix : Int), .slice none 0 0] (v.setCells G 0 (#[.string (fG d0), .int .i64 y1, .int .i64 y2, .int .i64 (d3 : Int), .int .i64 0, .int .i64 0, .int .i64 0, .int .i64 0, .string (zerosB nb), .int .i64 (ix : Int), .slice none 0 0] : Array Value).toList) from ⟨(setCells_other hn1 _ _ _).trans (blk_below HQ3d.out HBv.out), (setCells_other hn2 _ _ _).trans (blk_below HZd.out HBv.out), setCells_full _ H26.out rfl, below_cells (Nat.le_trans (Nat.le_succ _) (Nat.le_of_lt HG1.out)) _ _ _ (HBd.out.trans (HBv.out.mono HBd.out.size))⟩)
 clear hZ0 hn1 hn2 HQ3d HZd HBd HBv H0 H20 H26 HGS hHeld x1 x2 lx hn hnb hix
 generalize v.setCells G 0 (#[.string (fG d0), .int .i64 y1, .int .i64 y2, .int .i64 (d3 : Int), .int .i64 0, .int .i64 0, .int .i64 0, .int .i64 0, .string (zerosB nb), .int .i64 (ix : Int), .slice none 0 0] : Array Value).toList = w1 at HM ⊢
 obtain ⟨N1, hN1⟩ : ∃ n, n = w1.heap.size := ⟨_, rfl⟩
 have HN1 := Lib.hid (show N1 ≤ w1.heap.size from Nat.le_of_eq hN1)
 have HGN := Lib.hid (show G < N1 from by rw [hN1]; exact blk_lt HM.out.g)
 clear hN1
 have g2 := ck HM.out.g 2 _ rfl
 have g4 := ck HM.out.g 4 _ rfl
 have f4 := fz HM.out.g 4
 obtain ⟨hh36, hd4, hh72, hd5⟩ := HLT.out
 have mh : ((n : Int).tdiv 36) = (h36 : Int) := by rw [hh36]; rfl
 obtain ⟨wmh, xmh⟩ := wrap_small h36 HSM.out.2.2.2.1
 have mi : ((h36 : Int).tmod 2) = (d4 : Int) := by rw [hd4]; rfl
 have mj : ((n : Int).tdiv 72) = (h72 : Int) := by rw [hh72]; rfl
 obtain ⟨wmj, xmj⟩ := wrap_small h72 HSM.out.2.2.2.2
 have mk : ((h72 : Int).tmod 3) = (d5 : Int) := by rw [hd5]; rfl
 clear hh36 hd4 hh72 hd5
 go_upto_if 38 with fail
 go_cut [] (fun wx => ∃ rg : Int, (rg = 0 ∨ (y2 = 3 ∧ rg = 1)) ∧ MSt w q0 q1 q2 G #[.string (fG d0), .int .i64 y1, .int .i64 y2, .int .i64 (d3 : Int), .int .i64 rg, .int .i64 0, .int .i64 0, .int .i64 0, .string (zerosB nb), .int .i64 (ix : Int), .slice none 0 0] wx ∧ N1 ≤ wx.heap.size)
 case first =>
  by_cases c3 : y2 = 3
  · have c4 : (y2 == 3) = true := beq_iff_eq.2 c3
    have c5 : ((3 : Int) == 3) = true := rfl
    go_wp2
    go_meet
    refine ⟨(d4 : Int), ?_, HM.out.set HG1.out 4 (by simp) _ rfl, by have := HN1.out; rw [size_set]; exact this⟩
    have h4 := HD.out.2.2.2.2.1
    have : d4 = 0 ∨ d4 = 1 := by omega
    rcases this with h | h
    · exact .inl (by rw [h]; rfl)
    · exact .inr ⟨c3, by rw [h]; rfl⟩
  · have c4 : (y2 == 3) = false := beq_eq_false_iff_ne.2 c3
    go_wp2
    go_meet
    exact ⟨0, .inl rfl, HM.out, HN1.out⟩
 case rest =>
  obtain ⟨rg, hrg, hm, hsz⟩ := hcut
  have HRG := Lib.hid hrg
  have HM2 := Lib.hid hm
  have HN2 := Lib.hid hsz
  clear hrg hm hsz g2 g4 f4 HM HN1
  go_upto_if 47 with fail
  go_cut [] (fun wx => ∃ b1 b2 : Int, ((b1 = 0 ∧ b2 = 0) ∨ (b1 = 2 ∧ b2 = 1)) ∧ MSt w q0 q1 q2 G #[.string (fG d0), .int .i64 y1, .int .i64 y2, .int .i64 (d3 : Int), .int .i64 rg, .int .i64 b1, .int .i64 b2, .int .i64 0, .string (zerosB nb), .int .i64 (ix : Int), .slice none 0 0] wx ∧ N1 ≤ wx.heap.size)
  case first =>
   by_cases c3 : d5 = 2
   · have c4 : ((d5 : Int) == 2) = true := beq_iff_eq.2 (by omega)
     go_wp2_with (refine wpList_store_mid rfl 52 (.tmp 49) (.tmp 48) rfl G 5 #[.int .i64 2, .int .i64 1, .int .i64 0] rfl rfl (there_off HM2.out.g (by simp)) (inf3 rfl) one3 ?_)
     go_meet
     exact ⟨2, 1, .inr ⟨rfl, rfl⟩, HM2.out.sets HG1.out 5 [.int .i64 2, .int .i64 1, .int .i64 0] rfl, by have := HN2.out; rw [size_sets]; exact this⟩
   · have c4 : ((d5 : Int) == 2) = false := beq_eq_false_iff_ne.2 (by omega)
     go_wp2
     go_meet
     exact ⟨0, 0, .inl ⟨rfl, rfl⟩, HM2.out, HN2.out⟩
  case rest =>
   obtain ⟨b1, b2, hbb, hm, hsz⟩ := hcut
   have HBB := Lib.hid hbb
   have HM3 := Lib.hid hm
   have HN3 := Lib.hid hsz
   clear hbb hm hsz HM2 HN2 mh wmh xmh mi mj wmj xmj mk
   go_wp2
   go_loopg [5] (kk + 1) (fun kq v5 w' => ∃ (j : Nat) (l : List ByteArray) (v : Value), v5 = .int .i64 (j : Int) ∧ j + kq = kk + 1 ∧ j ≤ kk ∧ l.length = j ∧ (∀ t ∈ l, t.size = 8) ∧ MSt w q0 q1 q2 G #[.string (fG d0), .int .i64 y1, .int .i64 y2, .int .i64 (d3 : Int), .int .i64 rg, .int .i64 b1, .int .i64 b2, .int .i64 0, .string (zerosB nb), .int .i64 (ix : Int), v] w' ∧ N1 ≤ w'.heap.size ∧ Kd.R Kd.string 9 w' N1 (fun _ => True) v l)
   case atStart => exact ⟨0, [], _, rfl, by omega, by omega, rfl, fun t ht => absurd ht (by simp), HM3.out, HN3.out, Kd.R_nil _ _ _ _ _⟩
   case round =>
    clear HM3 HN3
    obtain ⟨j, l, v, rfl, hj, hjk, hl, h8, hm, hsz, hr⟩ := hrel
    obtain ⟨A, c, rfl⟩ := Kd.R_slice hr
    have HJ := Lib.hid (show j + gk = kk + 1 ∧ j ≤ kk ∧ l.length = j ∧ kk ≤ 3 from ⟨hj, hjk, hl, HN.out.2.2.2⟩)
    have H8 := Lib.hid h8
    have HM4 := Lib.hid hm
    have HN4 := Lib.hid hsz
    have HR := Lib.hid hr
    have x2 := ck hm.x 2 _ rfl
    by_cases c0 : j < kk
    · have d1_ : decide ((j : Int) < (kk : Int)) = true := decide_eq_true (by omega)
      have e1 : wrap64 ((j : Int) + 1) = ((j + 1 : Nat) : Int) := by rw [rl64 (by have := HJ.out; omega) (by have := HJ.out; omega)]; omega
      have HJL := Lib.hid c0
      have g10 := ck hm.g 10 _ rfl
      clear hj hjk hl h8 hm hsz hr
      go_wp2_with ((with_reducible refine gate_builtin (b := .append) (xs := #[.tmp 59, .tmp 60]) rfl ?_); at_builtin; go_loud (refine Kd.R_append Kd.string (w0 := wr) (W := wr) N1 rfl (.tmp 59) (.tmp 60) 53 9 (.string ⟨#[]⟩) 16 rfl undSs infoS rfl (by decide) (by omega) (.slice A l.length c) l ⟨#[49, 50, 51, 52, 53, 54, 55, 56]⟩ [.string ⟨#[49, 50, 51, 52, 53, 54, 55, 56]⟩] (fun _ => True) (fun _ => False) rfl ?aX rfl (fun _ hk => hk.elim) (fun _ _ => trivial) HR.out (Below.refl _ _) HN4.out ?aL ?_); go_loud (case aX => rfl); go_loud (case aL => have := HJ.out; omega); intro v9 w9 ho9 hb9 hg9 hat9; obtain ⟨A9, c9, rfl⟩ := Kd.R_slice ho9; have HO9 := Lib.hid ho9; have HM9 := Lib.hid (HM4.out.grow hb9 HGN.out (Nat.lt_trans HG1.out HGN.out)); have HN9 := Lib.hid (Nat.le_trans HN4.out hb9.size); have q10 := ck HM9.out.g 10 _ rfl; have f10 := fz HM9.out.g 10; clear ho9 hb9 hg9 hat9)
      cases gk with
      | zero => exact absurd HJ.out (by omega)
      | succ kk_ =>
        go_roundg kk_
        case measure => omega
        case rel =>
         have h3 := HJ.out
         have h4 := HJL.out
         have hR := Kd.R_mono (ok' := fun k => k ≠ G) (Kd.R_bound HO9.out) (fun k hk e => by have h1 := hk.2.1; have h2 := HGN.out; omega)
         rw [List.length_append, List.length_singleton] at hR
         refine ⟨j + 1, l ++ [⟨#[49, 50, 51, 52, 53, 54, 55, 56]⟩], .slice A9 (l.length + 1) c9, by first | rw [e1] | rfl, by omega, by omega, by rw [List.length_append, List.length_singleton]; omega, fun t ht => ?_, HM9.out.set HG1.out 10 (by simp) _ rfl, by have := HN9.out; rw [size_set]; exact this, Kd.R_mono (Kd.R_far (p := ⟨G, 10, none⟩) hR (fun k hk => hk) _) (fun _ _ => trivial)⟩
         rcases List.mem_append.1 ht with ht | ht
         · exact H8.out t ht
         · rw [List.mem_singleton.1 ht]; rfl
    · have hje : j = kk := by omega
      subst hje
      clear hj hjk hl h8 hm hsz hr c0
      go_wp2_with (first
       | (refine wpList_load_mid rfl 55 (.tmp 4) rfl G 0 rfl (#[.string (fG d0), .int .i64 y1, .int .i64 y2, .int .i64 (d3 : Int), .int .i64 rg, .int .i64 b1, .int .i64 b2, .int .i64 0, .string (zerosB nb), .int .i64 (ix : Int), .slice A l.length c] : Array Value).toList _ (rangeAt_blk HM4.out.g) Try.underlying55 rfl (inf11 rfl) ?_)
       | (refine wpList_store_mid rfl 55 (.tmp 2) (.tmp 63) rfl (w.heap.size + 1) 0 #[.string (fG d0), .int .i64 y1, .int .i64 y2, .int .i64 (d3 : Int), .int .i64 rg, .int .i64 b1, .int .i64 b2, .int .i64 0, .string (zerosB nb), .int .i64 (ix : Int), .slice A l.length c] rfl rfl (there_blk HM4.out.z rfl) (inf11 rfl) one11 ?_))
      have HE := Lib.hid (setCells_full #[.string (fG d0), .int .i64 y1, .int .i64 y2, .int .i64 (d3 : Int), .int .i64 rg, .int .i64 b1, .int .i64 b2, .int .i64 0, .string (zerosB nb), .int .i64 (ix : Int), .slice A l.length c] HM4.out.z rfl)
      refine bodyPost_ret (results_cell_row rfl _ _ (w.heap.size + 1) 55 #[.string (fG d0), .int .i64 y1, .int .i64 y2, .int .i64 (d3 : Int), .int .i64 rg, .int .i64 b1, .int .i64 b2, .int .i64 0, .string (zerosB nb), .int .i64 (ix : Int), .slice A l.length c] (0, 0) _ rfl HE.out Try.underlying55 rfl (inf11 rfl)) rfl ?_
      have h3 := HJ.out
      have hd := HD.out
      have hn := HN.out
      refine ⟨⟨fG d0, y1, ⟨y2, (d3 : Int), rg⟩, ⟨b1, b2, 0⟩, zerosB nb, (ix : Int), l⟩, A, c, ⟨?_, ?_, ?_, ?_, ?_, ?_, ?_, ?_, ?_, H8.out⟩, rfl, ?_, ?_⟩
      · show fG d0 = _ ∨ fG d0 = _
        unfold fG
        split
        · exact .inl rfl
        · exact .inr rfl
      · show y1 = 1 ∨ y1 = 2
        omega
      · show 1 ≤ y2 ∧ y2 ≤ 3
        omega
      · show 0 ≤ (d3 : Int) ∧ (d3 : Int) ≤ 2
        omega
      · exact HRG.out
      · show (⟨b1, b2, 0⟩ : S52) = _ ∨ (⟨b1, b2, 0⟩ : S52) = _
        rcases HBB.out with ⟨h1, h2⟩ | ⟨h1, h2⟩
        · exact .inl (by rw [h1, h2])
        · exact .inr (by rw [h1, h2])
      · show (zerosB nb).size ≤ 31
        rw [zerosB_size]
        omega
      · show 0 ≤ (ix : Int) ∧ (ix : Int) ≤ 7
        omega
      · show l.length ≤ 3
        omega
      · have hN := HGN.out
        have hG := HG1.out
        have hR := Kd.R_mono (ok' := fun k => N1 ≤ k) (Kd.R_bound HR.out) (fun k hk => hk.2.1)
        exact Kd.R_mono (Kd.R_lower (Kd.R_step hR (fun k hk hlt => setCells_other (by omega) _ _ _)) (by omega)) (fun _ _ => trivial)
      · exact below_cells (by omega) _ _ _ HM4.out.b
end Go.Proofs.Ythokkeljfdfppaa.Rl
