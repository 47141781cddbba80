/- The walk of DigestVerifies: right and changed proofs, beside the reference. -/
import Derived.Test.YtgepeapfninmeaaDgW
import Derived.Test.YtgepeapfninmeaaPax4
import Derived.StillTailTactics
import Derived.Deep.RegionHeld3
set_option linter.unusedVariables false
set_option linter.unusedSimpArgs false
namespace Go.Proofs.Ytgepeapfninmeaa.Pure
open Go.RowKit Go.Proofs.Ytgepeapfninmeaa.Pa Go.Proofs.YtgepeapfninmeaaW.PrintWords Go.Proofs.YtgepeapfninmeaaW.PrintLast Go.Proofs.YtgepeapfninmeaaW.PrintMore Go.Proofs.Ytgepeapfninmeaa.Gv Go.Proofs.Ytgepeapfninmeaa.Dg
attribute [local go_sem] max2_int min2_int max_two min_two
/-- A row of strings that is read. -/
def Rw (W : World) (v : Value) (l : List ByteArray) : Prop := ∃ A c, v = .slice A l.length c ∧ l.length ≤ c ∧ Kd.string.C W A l.length l
theorem Rw.below {W W' : World} {v : Value} {l : List ByteArray} (h : Rw W v l) (hb : Below W.heap.size W W') : Rw W' v l := by
  obtain ⟨A, c, e, hl, hC⟩ := h
  exact ⟨A, c, e, hl, Kd.C_below hC hb⟩
theorem Rw.of_R {e base : Nat} {W : World} {ok : Nat → Prop} {v : Value} {l : List ByteArray} (h : Kd.R Kd.string e W base ok v l) : Rw W v l := Kd.R_reads h
theorem cell_heap {w : World} {b : Nat} {cs : Array Value} {T : TypeId} {fr : Nat × Nat} (hb : w.heap[b]? = some (.cells cs T fr)) (j : Nat) (v : Value) (hv : cs[j]? = some v) : w.cell? ⟨b, j, none⟩ = some v := by
  simp [World.cell?, hb, hv]
theorem wrap_le (x : Int) : IntKind.i64.wrap x ≤ 9223372036854775807 := by rw [IntKind.wrap_i64]; omega
theorem and_le (x : Int) (m : Nat) (hm : m < 9223372036854775808) : 0 ≤ bits .and .i64 x m ∧ bits .and .i64 x m ≤ m := by
  have h : (BitVec.ofInt 64 x &&& BitVec.ofInt 64 (m : Int)).toNat ≤ m := by
    rw [BitVec.toNat_and]
    refine Nat.le_trans Nat.and_le_right ?_
    rw [BitVec.ofInt_natCast, BitVec.toNat_ofNat]
    exact Nat.mod_le _ _
  have e : bits .and .i64 x m = IntKind.i64.wrap ((BitVec.ofInt 64 x &&& BitVec.ofInt 64 (m : Int)).toNat : Int) := rfl
  rw [e, IntKind.wrap_i64]
  omega
theorem R_some {α : Type} {d : Kd α} {e base n c : Nat} {W : World} {ok : Nat → Prop} {A : Option Addr} {l : List α} (h : d.R e W base ok (.slice A n c) l) (hl : 0 < l.length) : ∃ g, A = some ⟨g, 0, none⟩ := by
  have hn := (Kd.R_reads' h).1
  obtain ⟨inner, h1, h2⟩ := Kd.R_own h
  rcases h2 with ⟨h3, h4⟩ | ⟨g, cap, cur, h3, _⟩
  · injection h3 with _ h3 _; omega
  · injection h3 with h3 _ _; exact ⟨g, h3⟩
set_option maxHeartbeats 4000000 in
set_option maxRecDepth 100000 in
theorem verifies_walk (A0 : Option Addr) (c0 : Nat) (l0 : List ByteArray) (leaf : ByteArray) (ix at_ long : Int) (el : ByteArray) (w : World) (hr0 : Kd.C Kd.string w A0 l0.length l0) (hc0 : l0.length ≤ c0) (hl : l0.length ≤ 9223372036854775807)
    (hix : -9223372036854775808 ≤ ix ∧ ix ≤ 9223372036854775807) :
    Calls Try.prog 5 #[.slice A0 l0.length c0, .string leaf, .agg #[.int .i64 ix, .int .i64 at_, .int .i64 long, .string el]] w fun e w' => e = .returned (.bool true) ∧ Below w.heap.size w w' := by
  have HR0 := Lib.hid hr0
  have hs : ∀ s ∈ few20 l0, s.size ≤ 9000 := fun s h => Nat.le_trans (few20_mem l0 s h) (by omega)
  have hl' := few20_len l0
  obtain ⟨k1, hk1⟩ := Ev.rounds (g := fun k => abugidalaw03_sanity.f k) sanity_ev
  obtain ⟨k2, hk2⟩ := Ev.rounds (g := fun k => abugidalaw03_few.f k l0) (few_ev l0 hl)
  obtain ⟨k3, hk3⟩ := Ev.rounds (g := fun k => abugidaref03_Root.f k (few20 l0)) (Root_ev (few20 l0) (by omega) hs)
  obtain ⟨L, hL⟩ : ∃ L, L = few20 l0 := ⟨_, rfl⟩
  rw [← hL] at hs hl' hk2 hk3
  generalize RootF L = root at hk3
  have H1 := Lib.hid hk1
  have H2 := Lib.hid hk2
  have H3 := Lib.hid hk3
  have HL := Lib.hid hL
  have HS := Lib.hid hs
  clear hk1 hk2 hk3 hL hs hr0
  obtain ⟨j40, hj40⟩ : ∃ j : Int, (if (40 : Int) < (leaf.size : Int) then 40 else (leaf.size : Int)) = j := ⟨_, rfl⟩
  have b0 : (0 ≤ j40) = True := eq_true (by rw [← hj40]; split <;> omega)
  have b1 : (j40 ≤ (leaf.size : Int)) = True := eq_true (by rw [← hj40]; split <;> omega)
  obtain ⟨Wb, hWb⟩ : ∃ W, W = w.alloc (.cells #[.int .i64 ix, .int .i64 at_, .int .i64 long, .string el] 33) := ⟨_, rfl⟩
  have hbb : Below w.heap.size w Wb := by rw [hWb]; exact below_alloc (Below.refl _ _) _
  have hbl : Wb.heap[w.heap.size]? = some (.cells #[.int .i64 ix, .int .i64 at_, .int .i64 long, .string el] 33 (0, 0)) := by rw [hWb]; exact blk_new w _
  have HBB := Lib.hid hbb
  have HBL := Lib.hid hbl
  have HWb := Lib.hid hWb
  clear hbb hbl hWb
  go_enter Try.func5, Try.ntmps5
  go_wp2_with (first
    | (go_at_call 11; rw [← HWb.out]; with_reducible refine (abugidalaw03_sanity.calls k1 true _ H1.out).mono ?_; rintro e w1 ⟨rfl, hb1⟩; have HB1 := Lib.hid hb1; clear hb1)
    | (go_at_call 17; go_loud (with_reducible refine (abugidalaw03_few.calls k2 _ _ l0 L _ ?n1 ?n2 H2.out).mono ?_; (case n1 => exact Kd.C_below HR0.out (HBB.out.trans (HB1.out.mono HBB.out.size))); (case n2 => exact hc0); rintro e w2 ⟨v2, rfl, hO2, hb2⟩; obtain ⟨A2, c2, rfl, hl2, hC2⟩ := Kd.R_reads hO2; have HO2 := Lib.hid hC2; have HB2 := Lib.hid (HB1.out.trans (hb2.mono HB1.out.size)); clear hb2 hO2 hC2))
    | (go_at_call 22; with_reducible refine (abugidaref03_Root.calls k3 _ _ L root _ HO2.out hl2 H3.out).mono ?_; rintro e w3 ⟨rfl, hb3⟩; have HO3 := Lib.hid (Kd.C_below HO2.out hb3); have HB3 := Lib.hid (HB2.out.trans (hb3.mono HB2.out.size)); clear hb3 HB1 HB2 HO2))
  have HBL3 := Lib.hid ((HB3.out.block _ (lt_of_block HBL.out)).trans HBL.out)
  have HBw := Lib.hid (HBB.out.trans (HB3.out.mono HBB.out.size))
  clear HB3 HBL HBB HWb
  have hlf : (leaf.extract 0 j40.toNat).size ≤ 9000 := by simp only [ByteArray.size_extract]; rw [← hj40]; split <;> omega
  generalize leaf.extract 0 j40.toNat = lf at *
  have HLF := Lib.hid hlf
  clear hlf hj40 b0 b1 HR0 hc0 hl
  go_loopw [9] (fun i wr => ∃ n : Nat, i = .int .i64 n ∧ n ≤ L.length ∧ Below w3.heap.size w3 wr) (fun i _ => L.length - (intOf i).toNat)
  case atStart => exact ⟨0, rfl, Nat.zero_le _, Below.refl _ _⟩
  case round =>
    obtain ⟨n, rfl, hn, hb⟩ := hrel
    have HR3 := Lib.hid (Kd.C_below HO3.out hb)
    have hBX := Lib.hid ((hb.block _ (lt_of_block HBL3.out)).trans HBL3.out)
    have HBr := Lib.hid hb
    clear hb
    by_cases hlt : n < L.length
    · obtain ⟨ad2, eA2, _⟩ := HR3.out.2.2 (by omega)
      subst eA2
      obtain ⟨s, hsn⟩ := get_some hlt
      have hsz := HS.out s (List.mem_of_getElem? hsn)
      obtain ⟨kp, hkp⟩ := Ev.rounds (g := fun k => abugidaref03_Proof.f k L n) (Proof_ev L (by omega) HS.out n)
      have hP0 : ∀ t ∈ ProofF L n, t.size ≤ 9000 := by rw [ProofF_in L n hlt]; exact ProofL_mem L HS.out n
      have hP1 := ProofF_len L (by omega) n
      generalize ProofF L n = P at *
      have HKP := Lib.hid hkp
      have HSN := Lib.hid hsn
      have HP0 := Lib.hid hP0
      have HSZ := Lib.hid hsz
      clear hkp hsn hP0 hsz
      go_wp2_with (first
        | (go_at_call 20; with_reducible refine (abugidaref03_Proof.calls kp _ _ L n P _ HR3.out hl2 HKP.out).mono ?_; rintro e w4 ⟨v4, rfl, hO4, hb4⟩; obtain ⟨A4, c4, rfl, hl4, hC4⟩ := Kd.R_reads hO4; have HC4 := Lib.hid hC4; have HB4 := Lib.hid hb4; clear hb4 hO4 hC4)
        | ((with_reducible refine gate_dst (N := 39) rfl ?_); refine Kd.R_lit Kd.string w4.heap.size 9 ?hg (N := 39) ?hd (w0 := w4) (xs := ([] : List ByteArray)) (inner := []) (ok := fun _ => True) (okp := fun _ => True) ?hr ?hp (fun _ hk => hk) trivial (Below.refl _ _) (Nat.le_refl _) (by simp) ?_; (case hd => rfl); (case hg => rfl); (case hr => first | (go_simp; done) | (go_simp; rfl)); (case hp => exact (Reps.none _ _)); intro v5 w5 ho5 hb5 hg_ hnew_; have HO5 := Lib.hid ho5; have HB5 := Lib.hid hb5; clear hg_ hnew_ ho5 hb5)
        | ((with_reducible refine gate_builtin (b := .append) (xs := #[.tmp 39, .tmp 40]) rfl ?_); at_builtin; refine Kd.R_append_rows Kd.string (w0 := w4) w4.heap.size rfl (.tmp 39) (.tmp 40) 26 9 (.string ⟨#[]⟩) 16 rfl Try.underlying26 info9 rfl (by decide) (by omega) v5 [] P A4 P.length c4 (fun _ => True) (fun _ => False) rfl rfl ?aO ?aR (fun _ _ h => h) (fun _ h => h.elim) ?aF ?aB ?aS ?aL ?_; (case aR => exact Kd.C_below HC4.out HB5.out); (case aB => exact HB5.out); (case aF => exact fun _ _ => trivial); (case aO => exact HO5.out); (case aS => exact HB5.out.size); (case aL => simp; omega); intro v6 w6 ho6 hb6 hg6 hat6; simp only [List.nil_append] at ho6; obtain ⟨A6, c6, rfl⟩ := Kd.R_slice ho6; have HO6 := Lib.hid ho6; have HB6 := Lib.hid hb6; clear ho6 hb6 hg6 hat6 HO5 HB5))
      focus
        rename 0 < P.length => hpos
        obtain ⟨g6, rfl⟩ := R_some HO6.out hpos
        have hbx := (HB6.out.block _ (lt_of_block ((HB4.out.block _ (lt_of_block hBX.out)).trans hBX.out))).trans ((HB4.out.block _ (lt_of_block hBX.out)).trans hBX.out)
        have q1 : w6.cell? ⟨w.heap.size, 1, none⟩ = some (.int .i64 at_) := cell_heap hbx _ _ rfl
        have q3 : w6.cell? ⟨w.heap.size, 3, none⟩ = some (.string el) := cell_heap hbx _ _ rfl
        obtain ⟨x1, hx1⟩ : ∃ x, bits .and .i64 at_ 65535 = x := ⟨_, rfl⟩
        have hx1b : 0 ≤ bits .and .i64 at_ 65535 ∧ bits .and .i64 at_ 65535 ≤ 65535 := and_le at_ 65535 (by omega)
        obtain ⟨x2, hx2⟩ : ∃ x, x1.tmod (P.length : Int) = x := ⟨_, rfl⟩
        have hx2b : 0 ≤ x2 ∧ x2 < (P.length : Int) := by rw [← hx2, ← hx1, Int.tmod_eq_emod_of_nonneg hx1b.1]; exact ⟨Int.emod_nonneg _ (by omega), Int.emod_lt_of_pos _ (by omega)⟩
        obtain ⟨j4, hj4⟩ : ∃ j : Int, (if (40 : Int) < (el.size : Int) then 40 else (el.size : Int)) = j := ⟨_, rfl⟩
        have d0 : (0 ≤ j4) = True := eq_true (by rw [← hj4]; split <;> omega)
        have d1 : (j4 ≤ (el.size : Int)) = True := eq_true (by rw [← hj4]; split <;> omega)
        have d2 : (0 ≤ x2) = True := eq_true hx2b.1
        have d3 : (x2 < (P.length : Int)) = True := eq_true hx2b.2
        have d4 : ((P.length : Int) == 0) = false := beq_eq_false_iff_ne.mpr (by omega)
        have d5 : ¬ (P.length = 0) := by omega
        have hel : (el.extract 0 j4.toNat).size ≤ 9000 := by simp only [ByteArray.size_extract]; rw [← hj4]; split <;> omega
        have HEL := Lib.hid hel
        have HPOS := Lib.hid hpos
        have HX2 := Lib.hid hx2b
        clear hbx hel hx2b hx1b
        go_still_tail 15, (by kernel_rfl)
        change wpList _ _ _ _ _ w6.drew
        refine Kd.R_store Kd.string (w0 := w4) w4.heap.size rfl rfl 9 (.tmp 59) (.tmp 58) rfl 9 (g := g6) (n := P.length) (cap := c6) (o' := x2.toNat) x2 0 P (el.extract 0 j4.toNat) (.string (el.extract 0 j4.toNat)) [.string (el.extract 0 j4.toNat)] [.string (rdOf ByteArray.empty P x2)] (fun _ => True) (fun _ => False) rfl ?of rfl rfl ?ht ?h1 ?HO HX2.out.1 HX2.out.2 rfl ?cc ?hj ?hM (fun _ h => h.elim) ?hB ?_
        case of => show x2.toNat = x2.toNat * 1 + 0; omega
        case ht => rfl
        case h1 => intro q hq; rw [List.mem_singleton.1 hq]; rfl
        case HO => exact Kd.R_drew HO6.out
        case cc =>
          intro j u hj
          have hc := Kd.foot_string (Kd.R_reads' (Kd.R_drew HO6.out)).2.2 x2 HX2.out.1 HX2.out.2
          cases j with
          | succ j => simp at hj
          | zero =>
            simp at hj
            subst hj
            rw [show (⟨g6, 0, none⟩ : Addr).add x2.toNat = ⟨g6, x2.toNat, none⟩ by unfold Addr.add; split <;> simp_all] at hc
            show w6.drew.cell? ⟨g6, x2.toNat * 1 + 0, none⟩ = _
            rw [show x2.toNat * 1 + 0 = x2.toNat by omega]
            exact hc
        case hj => exact Nat.le_refl _
        case hM => rfl
        case hB => exact below_drew1 HB6.out
        intro w7 ho7 hb7 hg7
        have hq7 : ∀ t ∈ P.set x2.toNat (el.extract 0 j4.toNat), t.size ≤ 9000 := fun t ht => by
          rcases List.mem_or_eq_of_mem_set ht with h | rfl
          · exact HP0.out t h
          · exact HEL.out
        have hn7 : (P.set x2.toNat (el.extract 0 j4.toNat)).length = P.length := List.length_set
        generalize P.set x2.toNat (el.extract 0 j4.toNat) = Q at *
        have HO7 := Lib.hid ho7
        have HB7 := Lib.hid hb7
        have HQ7 := Lib.hid hq7
        have HN7 := Lib.hid (show Q.length ≤ 5 by omega)
        clear ho7 hb7 hg7 hq7 HX2 HPOS HEL
        go_wp2
        clear hpos d0 d1 d2 d3 d4 d5 q1 q3
      rotate_left
      focus
        rename ¬ 0 < P.length => hz
        have hz' : decide (0 < P.length) = false := decide_eq_false hz
        simp only [hz']
        clear hz hz'
        have HO7 := HO6
        have HB7 := HB6
        have HQ7 := HP0
        have HN7 := Lib.hid hP1
      all_goals
        have hBX4 := Lib.hid ((HB4.out.block _ (lt_of_block hBX.out)).trans hBX.out)
        obtain ⟨J, hJ⟩ : ∃ x, bits .and .i64 long 31 = x := ⟨_, rfl⟩
        have hJb : 0 ≤ bits .and .i64 long 31 ∧ bits .and .i64 long 31 ≤ 31 := and_le long 31 (by omega)
        rw [hJ] at hJb
        obtain ⟨J2, hJ2⟩ : ∃ x, (if bits .and .i64 long 3 < (P.length : Int) then bits .and .i64 long 3 else (P.length : Int)) = x := ⟨_, rfl⟩
        have hJ2b : 0 ≤ J2 ∧ J2 ≤ (P.length : Int) := by
          have h3 : 0 ≤ bits .and .i64 long 3 ∧ bits .and .i64 long 3 ≤ 3 := and_le long 3 (by omega)
          rw [← hJ2]; split <;> omega
        go_loopw [11, 12] (fun v i wr2 => ∃ (m : Nat) (Q' : List ByteArray), i = .int .i64 m ∧ (m : Int) ≤ J ∧ Kd.R Kd.string 9 wr2 w4.heap.size (fun _ => True) v Q' ∧ Q'.length ≤ 5 + m ∧ (∀ t ∈ Q', t.size ≤ 9000) ∧ Below w4.heap.size w4 wr2) (fun _ i _ => (J - intOf i).toNat)
        case atStart => exact ⟨0, _, rfl, hJb.1, HO7.out, HN7.out, HQ7.out, HB7.out⟩
        case round =>
          obtain ⟨m, Q', rfl, hm, hO8, hn8, hq8, hb8⟩ := hrel
          have HO8 := Lib.hid hO8
          have HN8 := Lib.hid hn8
          have HQ8 := Lib.hid hq8
          have HB8 := Lib.hid hb8
          have hbx8 := (hb8.block _ (lt_of_block hBX4.out)).trans hBX4.out
          have q0 : wr.cell? ⟨w.heap.size, 0, none⟩ = some (.int .i64 ix) := cell_heap hbx8 _ _ rfl
          have q2 : wr.cell? ⟨w.heap.size, 2, none⟩ = some (.int .i64 long) := cell_heap hbx8 _ _ rfl
          have HBX8 := Lib.hid hbx8
          clear hO8 hn8 hq8 hb8 hbx8
          by_cases hlt8 : (m : Int) < J
          · go_wp2_with ((with_reducible refine gate_builtin (b := .append) (xs := #[.tmp 67, .tmp 68]) rfl ?_); at_builtin; refine Kd.R_append Kd.string (w0 := w4) w4.heap.size rfl (.tmp 67) (.tmp 68) 26 9 (.string ⟨#[]⟩) 16 rfl Try.underlying26 info9 rfl (by decide) (by omega) u11 Q' ⟨#[]⟩ [.string ⟨#[]⟩] (fun _ => True) (fun _ => False) rfl rfl ?aP (fun _ hk => hk.elim) ?aF ?aO ?aB ?aS ?aL ?_; (case aP => exact rfl); (case aF => exact (fun _ _ => trivial)); (case aO => exact HO8.out); (case aB => exact HB8.out); (case aS => exact HB8.out.size); (case aL => have := HN8.out; omega); intro v9 w9 ho9 hb9 hg9 hat9; have HO9 := Lib.hid ho9; have HB9 := Lib.hid hb9; clear ho9 hb9 hg9 hat9)
            go_roundw
            case rel =>
              refine ⟨m + 1, Q' ++ [⟨#[]⟩], by go_num, by omega, HO9.out, by have := HN8.out; simp; omega, fun t ht => ?_, HB9.out⟩
              rcases List.mem_append.1 ht with h | h
              · exact HQ8.out t h
              · rw [List.mem_singleton.1 h]; exact Nat.zero_le 9000
            case measure => first | omega | (simp [intOf]; omega)
          · obtain ⟨A8, c8, rfl, hl8, hC8⟩ := Kd.R_reads HO8.out
            have HC8 := Lib.hid hC8
            have HC4' := Lib.hid (Kd.C_below HC4.out HB8.out)
            obtain ⟨i0, hi0, _, hsz0, _⟩ := info_parts info9
            obtain ⟨hcut, _, hCc⟩ := print_take_of (P := Try.prog) Value.string ByteArray.empty 26 9 .i64 Try.underlying26 hi0 hsz0 A4 c4 P J2 hJ2b.1 hJ2b.2 hl4
            have HCt := Lib.hid (Kd.C_take HC4'.out (m := J2.toNat) (by omega))
            have HPt := Lib.hid (show ∀ t ∈ P.take J2.toNat, t.size ≤ 9000 from fun t ht => HP0.out t (List.mem_of_mem_take ht))
            generalize P.take J2.toNat = Pt at *
            clear hC8 hi0 hsz0
            go_wp2
            have HW8 := Lib.hid (heap_alloc_new wr (.cells #[.slice A4 P.length c4, .slice A8 Q'.length c8, .slice A4 Pt.length c4] 26))
            have HB8' := Lib.hid (below_alloc HB8.out (.cells #[.slice A4 P.length c4, .slice A8 Q'.length c8, .slice A4 Pt.length c4] 26))
            have HBX8' := Lib.hid (((below_alloc (Below.refl wr.heap.size wr) (.cells #[.slice A4 P.length c4, .slice A8 Q'.length c8, .slice A4 Pt.length c4] 26)).block _ (lt_of_block HBX8.out)).trans HBX8.out)
            have hrows : ∀ j : Nat, j < 3 → ∃ A c l, (wr.alloc (.cells #[.slice A4 P.length c4, .slice A8 Q'.length c8, .slice A4 Pt.length c4] 26)).cell? ⟨wr.heap.size, j, none⟩ = some (.slice A l.length c) ∧ l.length ≤ c ∧ Kd.string.C (wr.alloc (.cells #[.slice A4 P.length c4, .slice A8 Q'.length c8, .slice A4 Pt.length c4] 26)) A l.length l ∧ ∀ t ∈ l, t.size ≤ 9000 := by
              intro j hj
              obtain rfl | rfl | rfl : j = 0 ∨ j = 1 ∨ j = 2 := by omega
              · exact ⟨A4, c4, P, cell_heap HW8.out _ _ rfl, hl4, Kd.C_alloc HC4'.out _, HP0.out⟩
              · exact ⟨A8, c8, Q', cell_heap HW8.out _ _ rfl, hl8, Kd.C_alloc HC8.out _, HQ8.out⟩
              · exact ⟨A4, c4, Pt, cell_heap HW8.out _ _ rfl, hCc, Kd.C_alloc HCt.out _, HPt.out⟩
            have HROWS := Lib.hid hrows
            have HRL := Lib.hid (Kd.C_below (Kd.C_below (Kd.C_below HR3.out HB4.out) HB8.out) (below_alloc (Below.refl wr.heap.size wr) (.cells #[.slice A4 P.length c4, .slice A8 Q'.length c8, .slice A4 Pt.length c4] 26)))
            clear hrows HW8 q0 q2 HBX8 HB8 HCt HC4' HC8 hcut
            generalize wr.alloc (.cells #[.slice A4 P.length c4, .slice A8 Q'.length c8, .slice A4 Pt.length c4] 26) = W8 at *
            generalize wr.heap.size = g8 at *
            go_loopw [83] (fun i wr => ∃ n3 : Nat, i = .int .i64 n3 ∧ n3 ≤ 3 ∧ Below W8.heap.size W8 wr) (fun i _ => 3 - (intOf i).toNat)
            case atStart => exact ⟨0, rfl, by omega, Below.refl _ _⟩
            case round =>
              obtain ⟨n3, rfl, hn3, hb9⟩ := hrel
              by_cases hlt3 : n3 < 3
              · obtain ⟨A9, c9, x9, hx9, hl9, hC9, hs9⟩ := HROWS.out n3 hlt3
                have r0 : wr.cell? ⟨g8, n3, none⟩ = some (.slice A9 x9.length c9) := (hb9.cell (World.block_lt_of_cell? W8 _ hx9)).trans hx9
                have r1 : (0 ≤ (n3 : Int)) = True := eq_true (by omega)
                have r2 : ((n3 : Int) < 3) = True := eq_true (by omega)
                have hbx9 := (hb9.block _ (lt_of_block HBX8'.out)).trans HBX8'.out
                have q0 : wr.cell? ⟨w.heap.size, 0, none⟩ = some (.int .i64 ix) := cell_heap hbx9 _ _ rfl
                have HC9 := Lib.hid (Kd.C_below hC9 hb9)
                have HS9 := Lib.hid hs9
                have HB9 := Lib.hid hb9
                clear hC9 hx9 hs9 hb9 hbx9
                have hg0 : w.heap.size < wr.heap.size := World.block_lt_of_cell? wr _ q0
                go_wp2
                go_region_held3 (fun w' => w'.cell? ⟨w.heap.size, 0, none⟩ = some (.int .i64 ix)) (first | exact q0 | exact (World.cell?_alloc_lt _ _ _ hg0).trans q0) ((fail))
                have hx2 := wrap_le ((n : Int) + IntKind.i64.wrap (2 ^ P.length))
                have hx3 : bits .xor .i64 (n : Int) 1 ≤ 9223372036854775807 := wrap_le _
                generalize IntKind.i64.wrap ((n : Int) + IntKind.i64.wrap (2 ^ P.length)) = e2 at *
                generalize bits .xor .i64 (n : Int) 1 = e3 at *
                have hW9 := heap_alloc_new wr (.cells #[.int .i64 n, .int .i64 ix, .int .i64 e2, .int .i64 e3] 3)
                have HBA := Lib.hid (below_drew1 (below_alloc (Below.refl wr.heap.size wr) (.cells #[.int .i64 n, .int .i64 ix, .int .i64 e2, .int .i64 e3] 3)))
                have hints : ∀ j : Nat, j < 4 → ∃ a : Int, (wr.alloc (.cells #[.int .i64 n, .int .i64 ix, .int .i64 e2, .int .i64 e3] 3)).drew.cell? ⟨wr.heap.size, j, none⟩ = some (.int .i64 a) ∧ a ≤ 9223372036854775807 := by
                  intro j hj
                  obtain rfl | rfl | rfl | rfl : j = 0 ∨ j = 1 ∨ j = 2 ∨ j = 3 := by omega
                  · exact ⟨n, cell_heap hW9 _ _ rfl, by omega⟩
                  · exact ⟨ix, cell_heap hW9 _ _ rfl, hix.2⟩
                  · exact ⟨e2, cell_heap hW9 _ _ rfl, hx2⟩
                  · exact ⟨e3, cell_heap hW9 _ _ rfl, hx3⟩
                have HINTS := Lib.hid hints
                have HC9' := Lib.hid (Kd.C_below HC9.out HBA.out)
                have HRL9 := Lib.hid (Kd.C_below (Kd.C_below HRL.out HB9.out) HBA.out)
                have HB9' := Lib.hid (HB9.out.trans (HBA.out.mono HB9.out.size))
                clear hints hW9 hx2 hx3 HBA q0 r0 HC9 HB9 hg0
                generalize (wr.alloc (.cells #[.int .i64 n, .int .i64 ix, .int .i64 e2, .int .i64 e3] 3)).drew = W9 at *
                generalize wr.heap.size = g9 at *
                go_wp2
                go_loopw [99] (fun i wr => ∃ n4 : Nat, i = .int .i64 n4 ∧ n4 ≤ 4 ∧ Below W9.heap.size W9 wr) (fun i _ => 4 - (intOf i).toNat)
                case atStart => exact ⟨0, rfl, by omega, Below.refl _ _⟩
                case round =>
                  obtain ⟨n4, rfl, hn4, hb10⟩ := hrel
                  by_cases hlt4 : n4 < 4
                  · obtain ⟨a, ha, ha2⟩ := HINTS.out n4 hlt4
                    have r0 : wr.cell? ⟨g9, n4, none⟩ = some (.int .i64 a) := (hb10.cell (World.block_lt_of_cell? W9 _ ha)).trans ha
                    have r1 : (0 ≤ (n4 : Int)) = True := eq_true (by omega)
                    have r2 : ((n4 : Int) < 4) = True := eq_true (by omega)
                    have q5 : wr.cell? (ad2.add n) = some (.string s) := by
                      have := Kd.foot_string (Kd.C_below HRL9.out hb10) (n : Int) (by omega) (by omega)
                      rw [rd_some HSN.out] at this
                      simpa using this
                    have r5 : (0 ≤ (n : Int)) = True := eq_true (by omega)
                    have r6 : ((n : Int) < (L.length : Int)) = True := eq_true (by omega)
                    have HA2 := Lib.hid ha2
                    have HB10 := Lib.hid hb10
                    clear ha ha2 hb10
                    go_wp2
                    have hW10 := heap_alloc_new wr (.cells #[.string s, .string lf] 9)
                    have HBA := Lib.hid (below_alloc (Below.refl wr.heap.size wr) (.cells #[.string s, .string lf] 9))
                    have hstrs : ∀ j : Nat, j < 2 → ∃ y : ByteArray, (wr.alloc (.cells #[.string s, .string lf] 9)).cell? ⟨wr.heap.size, j, none⟩ = some (.string y) ∧ y.size ≤ 9000 := by
                      intro j hj
                      obtain rfl | rfl : j = 0 ∨ j = 1 := by omega
                      · exact ⟨s, cell_heap hW10 _ _ rfl, HSZ.out⟩
                      · exact ⟨lf, cell_heap hW10 _ _ rfl, HLF.out⟩
                    have HSTRS := Lib.hid hstrs
                    have HC10 := Lib.hid (Kd.C_below (Kd.C_below HC9'.out HB10.out) HBA.out)
                    have HB10' := Lib.hid (HB10.out.trans (HBA.out.mono HB10.out.size))
                    clear hstrs hW10 HBA r0 r5 r6 q5 HB10
                    generalize wr.alloc (.cells #[.string s, .string lf] 9) = W10 at *
                    generalize wr.heap.size = g10 at *
                    go_loopw [110] (fun i wr => ∃ n5 : Nat, i = .int .i64 n5 ∧ n5 ≤ 2 ∧ Below W10.heap.size W10 wr) (fun i _ => 2 - (intOf i).toNat)
                    case atStart => exact ⟨0, rfl, by omega, Below.refl _ _⟩
                    case round =>
                      obtain ⟨n5, rfl, hn5, hb11⟩ := hrel
                      by_cases hlt5 : n5 < 2
                      · obtain ⟨y, hy, hy2⟩ := HSTRS.out n5 hlt5
                        have r0 : wr.cell? ⟨g10, n5, none⟩ = some (.string y) := (hb11.cell (World.block_lt_of_cell? W10 _ hy)).trans hy
                        have r1 : (0 ≤ (n5 : Int)) = True := eq_true (by omega)
                        have r2 : ((n5 : Int) < 2) = True := eq_true (by omega)
                        obtain ⟨ka, hka⟩ := Ev.rounds (g := fun k => abugidaref03_Verify.f k root y a x9) (Verify_ev root y a x9 HA2.out hy2 HS9.out)
                        obtain ⟨kb, hkb⟩ := Ev.rounds (g := fun k => abugidaref03_Verify.f k lf y a x9) (Verify_ev lf y a x9 HA2.out hy2 HS9.out)
                        have Hka := Lib.hid hka
                        have Hkb := Lib.hid hkb
                        have HY := Lib.hid hy2
                        have HC11 := Lib.hid (Kd.C_below HC10.out hb11)
                        have HB11 := Lib.hid hb11
                        have HX := Lib.hid (Below.refl wr.heap.size wr)
                        clear hka hkb hy hy2 hb11
                        go_wp2_with (first
                          | (go_at_call 23; (first | (with_reducible refine (digest_Verify.calls root y a A9 c9 x9 (VerifyF root y a x9) _ (Kd.C_below HC11.out HX.out) hl9 (verify_some root y a x9 HY.out HA2.out HS9.out)).mono ?_; rintro e wx ⟨rfl, hbx⟩; have n_ := Lib.hid (HX.out.trans (hbx.mono HX.out.size)); clear HX hbx; have HX := n_; clear n_) | (with_reducible refine (digest_Verify.calls lf y a A9 c9 x9 (VerifyF lf y a x9) _ (Kd.C_below HC11.out HX.out) hl9 (verify_some lf y a x9 HY.out HA2.out HS9.out)).mono ?_; rintro e wx ⟨rfl, hbx⟩; have n_ := Lib.hid (HX.out.trans (hbx.mono HX.out.size)); clear HX hbx; have HX := n_; clear n_)))
                          | (go_at_call 24; (first | (with_reducible refine (abugidaref03_Verify.calls ka root y a A9 c9 x9 (VerifyF root y a x9) _ (Kd.C_below HC11.out HX.out) hl9 Hka.out).mono ?_; rintro e wx ⟨rfl, hbx⟩; have n_ := Lib.hid (HX.out.trans (hbx.mono HX.out.size)); clear HX hbx; have HX := n_; clear n_) | (with_reducible refine (abugidaref03_Verify.calls kb lf y a A9 c9 x9 (VerifyF lf y a x9) _ (Kd.C_below HC11.out HX.out) hl9 Hkb.out).mono ?_; rintro e wx ⟨rfl, hbx⟩; have n_ := Lib.hid (HX.out.trans (hbx.mono HX.out.size)); clear HX hbx; have HX := n_; clear n_))))
                        case roundEnd => exact ⟨⟨n5 + 1, by go_num, by omega, HB11.out.trans (HX.out.mono HB11.out.size)⟩, by first | omega | (simp [intOf]; omega)⟩
                      · go_wp2
                        go_roundw
                        case rel => exact ⟨n4 + 1, by go_num, by omega, HB10'.out.trans (hb11.mono HB10'.out.size)⟩
                        case measure => first | omega | (simp [intOf]; omega)
                  · go_wp2
                    go_roundw
                    case rel => exact ⟨n3 + 1, by go_num, by omega, HB9'.out.trans (hb10.mono HB9'.out.size)⟩
                    case measure => first | omega | (simp [intOf]; omega)
              · go_wp2
                go_roundw
                case rel => exact ⟨n + 1, by go_num, by omega, HBr.out.trans ((HB4.out.trans ((HB8'.out.trans (hb9.mono HB8'.out.size)).mono HB4.out.size)).mono HBr.out.size)⟩
                case measure => first | omega | (simp [intOf]; omega)
    · go_wp2
      go_ret
      exact ⟨rfl, HBw.out.trans (HBr.out.mono HBw.out.size)⟩
theorem digestVerifies_calls (w : World) (A0 : Option Addr) (c0 : Nat) (l0 : List ByteArray) (hC0 : Kd.C Kd.string w A0 l0.length l0) (hc0 : l0.length ≤ c0) (hl0 : l0.length ≤ 9223372036854775807) (hs0 : ∀ s ∈ l0, s.size ≤ 9223372036854775807) (a1 : ByteArray) (w1 : a1.size ≤ 9223372036854775807)
    (ix : Int) (wix : (Lit.int .i64 ix).wf = true) (at_ : Int) (wat : (Lit.int .i64 at_).wf = true) (long : Int) (wlong : (Lit.int .i64 long).wf = true) (el : ByteArray) (wel : el.size ≤ 9223372036854775807) :
    Calls Try.prog 5 #[.slice A0 l0.length c0, .string a1, .agg #[.int .i64 ix, .int .i64 at_, .int .i64 long, .string el]] w fun e w' => e = .returned (.bool true) ∧ Below w.heap.size w w' :=
  verifies_walk A0 c0 l0 a1 ix at_ long el w hC0 hc0 hl0 (by simp [Lit.wf, IntKind.min, IntKind.max, IntKind.signed, IntKind.bits] at wix; omega)
end Go.Proofs.Ytgepeapfninmeaa.Pure
