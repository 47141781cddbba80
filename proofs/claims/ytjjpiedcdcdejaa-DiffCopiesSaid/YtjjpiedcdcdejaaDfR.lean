/- The law DiffInverts, walked. -/
import Derived.Test.YtjjpiedcdcdejaaDfS
set_option linter.unusedVariables false
set_option linter.unusedSimpArgs false
namespace Go.Proofs.Ytjjpiedcdcdejaa.Pure
open Go.RowKit Go.Proofs.Ytjjpiedcdcdejaa.Pb Go.Proofs.YtjjpiedcdcdejaaW.PrintWords Go.Proofs.YtjjpiedcdcdejaaW.PrintLast Go.Proofs.YtjjpiedcdcdejaaW.PrintMore Go.Proofs.Ytjjpiedcdcdejaa.Gw
open Go.Proofs.Ytjjpiedcdcdejaa.Df (diff_Make.f diff_Make.calls diff_Apply.f diff_Apply.calls Pcs ck)
attribute [local go_sem] max2_int min2_int max_two min_two
theorem san_c (w : World) : Calls Try.prog 10 #[] w fun e w' => e = .returned (.bool true) ∧ Below w.heap.size w w' := sanity_walk w
theorem cut_c (a : ByteArray) (w : World) : Calls Try.prog 11 #[.string a] w fun e w' => e = .returned (.string (cut200 a)) ∧ Below w.heap.size w w' := by
  obtain ⟨k, hk⟩ := (cut_ev a).rounds
  exact abugidalaw24_cut.calls a _ w hk
theorem base_c (a : ByteArray) (A : Option Addr) (c : Nat) (l : List Int) (w : World) (hC : Kd.C (Kd.int .i64) w A l.length l) (hc : l.length ≤ c) : Calls Try.prog 14 #[.agg #[.string a, .slice A l.length c]] w fun e w' => e = .returned (.string (cut200 a)) ∧ Below w.heap.size w w' := by
  obtain ⟨k, hk⟩ := (base_ev a l).rounds
  exact abugidalaw24_Case_base.calls a A c l _ w hC hc hk
theorem target_c (a : ByteArray) (A : Option Addr) (c : Nat) (l : List Int) (t : ByteArray) (ht : Ev (fun k => abugidalaw24_Case_target.f k a l) t) (w : World) (hC : Kd.C (Kd.int .i64) w A l.length l) (hc : l.length ≤ c) : Calls Try.prog 15 #[.agg #[.string a, .slice A l.length c]] w fun e w' => e = .returned (.string t) ∧ Below w.heap.size w w' := by
  obtain ⟨k, hk⟩ := ht.rounds
  exact abugidalaw24_Case_target.calls k a A c l _ w hC hc hk
theorem make_c (s t : ByteArray) (hs : s.size ≤ 60000) (ht : t.size ≤ 2000) (w : World) : Calls Try.prog 12 #[.string s, .string t] w fun e w' => e = .returned (.string (MakeB s t)) ∧ Below w.heap.size w w' := by
  obtain ⟨k, hk⟩ := (Make_ev s t (by omega) (by omega) (Pcs_small' s t (by omega) ht)).rounds
  exact diff_Make.calls k s t _ w hk
theorem back_c (s t b : ByteArray) (hs : s.size ≤ 60000) (ht : t.size ≤ 2000) (hb : b.size ≤ 60000) (w : World) : Calls Try.prog 16 #[.string (s ++ b), .string (MakeB s t)] w fun e w' => e = .returned (.tuple #[.string t, .int .i64 0]) ∧ Below w.heap.size w w' := by
  have h := Apply_code0 (s ++ b) _ _ (Pcs_small' s t (by omega) ht) (by rw [ByteArray.size_append]; omega)
  rw [(Pcs_seg s t).apply b (by omega)] at h
  obtain ⟨k, hk⟩ := h.rounds
  exact diff_Apply.calls k _ _ t 0 w hk
theorem back_c0 (s t : ByteArray) (hs : s.size ≤ 60000) (ht : t.size ≤ 2000) (w : World) : Calls Try.prog 16 #[.string s, .string (MakeB s t)] w fun e w' => e = .returned (.tuple #[.string t, .int .i64 0]) ∧ Below w.heap.size w w' := by
  have := back_c s t ⟨#[]⟩ hs ht (by decide) w
  rwa [show s ++ ⟨#[]⟩ = s by apply ByteArray.ext; simp] at this
/-- One pair of the law. -/
structure Pair (wr : World) (G j : Nat) (x y b : ByteArray) : Prop where
  cx : wr.cell? ⟨G, j * 2, none⟩ = some (.string x)
  cy : wr.cell? ⟨G, j * 2 + 1, none⟩ = some (.string y)
  zx : x.size ≤ 200
  zy : y.size ≤ 480
theorem get5 {w : World} {b : Nat} {v0 v1 v2 v3 v4 v5 v6 v7 v8 v9 : Value} {T : TypeId} (h : w.heap[b]? = some (.cells #[v0, v1, v2, v3, v4, v5, v6, v7, v8, v9] T (0, 0))) (j : Nat) (v : Value) (hv : (#[v0, v1, v2, v3, v4, v5, v6, v7, v8, v9] : Array Value)[j]? = some v) : w.cell? ⟨b, j, none⟩ = some v := ck h j v hv
set_option maxHeartbeats 4000000 in
set_option maxRecDepth 100000 in
theorem diffInverts_calls (w : World) (a0 : ByteArray) (z0 : a0.size ≤ 9223372036854775807) (a1 : ByteArray) (z1 : a1.size ≤ 9223372036854775807) (b : ByteArray) (zb : b.size ≤ 9223372036854775807)
    (A : Option Addr) (c : Nat) (l : List Int) (hC : Kd.C (Kd.int .i64) w A l.length l) (hc : l.length ≤ c) (hl : l.length ≤ 9223372036854775807) (hw : ∀ n ∈ l, (Lit.int .i64 n).wf = true) :
    Calls Try.prog 6 #[.string a0, .string a1, .agg #[.string b, .slice A l.length c]] w fun e w' => e = .returned (.bool true) ∧ Below w.heap.size w w' := by
  obtain ⟨t, ht, hT⟩ := target_ev b l
  have za := cut200_size a0
  have zc := cut200_size a1
  have zd := cut200_size b
  obtain ⟨p, hp⟩ : ∃ p, p = cut200 a0 := ⟨_, rfl⟩
  obtain ⟨q, hq⟩ : ∃ q, q = cut200 a1 := ⟨_, rfl⟩
  obtain ⟨d, hd⟩ : ∃ d, d = cut200 b := ⟨_, rfl⟩
  rw [← hp] at za
  rw [← hq] at zc
  rw [← hd] at zd
  have HP := Lib.hid hp
  have HQ := Lib.hid hq
  have HD := Lib.hid hd
  have HZ := Lib.hid (show p.size ≤ 200 ∧ q.size ≤ 200 ∧ d.size ≤ 200 ∧ t.size ≤ 480 from ⟨za, zc, zd, ht⟩)
  have HT := Lib.hid hT
  have HC := Lib.hid hC
  have HCC := Lib.hid hc
  obtain ⟨Wb, hWb⟩ : ∃ W, W = w.alloc (.cells #[.string b, .slice A l.length c] 24) := ⟨_, rfl⟩
  have hbb : Below w.heap.size w Wb := by rw [hWb]; exact below_alloc (Below.refl _ _) _
  have hbl : Wb.heap[w.heap.size]? = some (.cells #[.string b, .slice A l.length c] 24 (0, 0)) := by rw [hWb]; exact blk_new w _
  have HBB := Lib.hid hbb
  have HBL := Lib.hid hbl
  have HWb := Lib.hid hWb
  clear hp hq hd za zc zd ht hT hC hc hbb hbl hWb
  go_enter Try.func6, Try.ntmps6
  go_wp2_with (first
    | (go_at_call 10; rw [← HWb.out]; with_reducible refine (san_c _).mono ?_; rintro e w1 ⟨rfl, hb1⟩; have HB1 := Lib.hid (HBB.out.trans (hb1.mono HBB.out.size)); have HL1 := Lib.hid ((hb1.block _ (blk_lt HBL.out)).trans HBL.out); clear hb1)
    | (go_at_call 11; first
      | (with_reducible refine (cut_c a0 w1).mono ?_; rw [← HP.out]; rintro e w2 ⟨rfl, hb2⟩; have HB2 := Lib.hid (HB1.out.trans (hb2.mono HB1.out.size)); have HL2 := Lib.hid ((hb2.block _ (blk_lt HL1.out)).trans HL1.out); clear hb2)
      | (with_reducible refine (cut_c a1 w2).mono ?_; rw [← HQ.out]; rintro e w3 ⟨rfl, hb3⟩; have HB3 := Lib.hid (HB2.out.trans (hb3.mono HB2.out.size)); have HL3 := Lib.hid ((hb3.block _ (blk_lt HL2.out)).trans HL2.out); clear hb3)))
  obtain ⟨k1, hk1⟩ : ∃ w3d, w3d = w3.drew := ⟨_, rfl⟩
  have c0 : w3.drew.cell? ⟨w.heap.size, 0, none⟩ = some (.string b) := ck HL3.out 0 _ rfl
  have c1 : w3.drew.cell? ⟨w.heap.size, 1, none⟩ = some (.slice A l.length c) := ck HL3.out 1 _ rfl
  have HC3 := Lib.hid (show (Kd.int .i64).C w3.drew A l.length l from Kd.C_drew (Kd.C_below HC.out HB3.out))
  have HBd := Lib.hid (HB3.out.drew)
  have hlt := Lib.hid (World.block_lt_of_cell? _ _ c0)
  have hlt1 := Lib.hid (World.block_lt_of_cell? _ _ c1)
  clear k1 hk1
  go_wp2
  refine start_ (n := 19) (S := fun w' => w'.cell? ⟨w.heap.size, 0, none⟩ = some (.string b) ∧ w'.cell? ⟨w.heap.size, 1, none⟩ = some (.slice A l.length c)) (ds := []) #[false, false, false, false, false, false, false, false, false, false, false, false, false, false, false, false, false, false, false] (by kernel_rfl) rfl rfl ⟨c0, c1⟩ (fun hHeld => ?_)
  generalize w3.drew = wd at HBd HC3 c0 c1 hlt hlt1 hHeld ⊢; have HX := Lib.hid (Below.refl wd.heap.size wd)
  refine pure_ (i := 0) (N := some 20) (v := ?_) (a' := ?_) #[true, false, false, false, false, false, false, false, false, false, false, false, false, false, false, false, false, false, false] rfl rfl (by kernel_rfl) (fun _ _ _ h => h) (Or.inl ⟨by rfl, ?_⟩) ?_ ?_
  rotate_left
  · intro w'
    go_simp
    with_reducible rfl
  rotate_left
  · simp only [Act.put, List.setIfInBounds_toArray, List.set_cons_zero, List.set_cons_succ, i64_w, i32_w]
    rfl
  refine pure_ (i := 1) (N := some 21) (v := ?_) (a' := ?_) #[true, true, false, false, false, false, false, false, false, false, false, false, false, false, false, false, false, false, false] rfl rfl (by kernel_rfl) (fun _ _ _ h => h) (Or.inl ⟨by rfl, ?_⟩) ?_ ?_
  rotate_left
  · intro w'
    go_simp
    with_reducible rfl
  rotate_left
  · simp only [Act.put, List.setIfInBounds_toArray, List.set_cons_zero, List.set_cons_succ, i64_w, i32_w]
    rfl
  refine pure_ (i := 2) (N := some 22) (v := ?_) (a' := ?_) #[true, true, true, false, false, false, false, false, false, false, false, false, false, false, false, false, false, false, false] rfl rfl (by kernel_rfl) (fun _ _ _ h => h) (Or.inl ⟨by rfl, ?_⟩) ?_ ?_
  rotate_left
  · intro w'
    go_simp
    with_reducible rfl
  rotate_left
  · simp only [Act.put, List.setIfInBounds_toArray, List.set_cons_zero, List.set_cons_succ, i64_w, i32_w]
    rfl
  refine pure_ (i := 8) (N := some 28) (v := ?_) (a' := ?_) #[true, true, true, false, false, false, false, false, true, false, false, false, false, false, false, false, false, false, false] rfl rfl (by kernel_rfl) (fun _ _ _ h => h) (Or.inl ⟨by rfl, ?_⟩) ?_ ?_
  rotate_left
  · intro w'
    go_simp
    with_reducible rfl
  rotate_left
  · simp only [Act.put, List.setIfInBounds_toArray, List.set_cons_zero, List.set_cons_succ, i64_w, i32_w]
    rfl
  refine pure_ (i := 12) (N := some 32) (v := ?_) (a' := ?_) #[true, true, true, false, false, false, false, false, true, false, false, false, true, false, false, false, false, false, false] rfl rfl (by kernel_rfl) (fun _ _ _ h => h) (Or.inl ⟨by rfl, ?_⟩) ?_ ?_
  rotate_left
  · intro w'
    go_simp
    with_reducible rfl
  rotate_left
  · simp only [Act.put, List.setIfInBounds_toArray, List.set_cons_zero, List.set_cons_succ, i64_w, i32_w]
    rfl
  refine pure_ (i := 13) (N := some 33) (v := ?_) (a' := ?_) #[true, true, true, false, false, false, false, false, true, false, false, false, true, true, false, false, false, false, false] rfl rfl (by kernel_rfl) (fun _ _ _ h => h) (Or.inl ⟨by rfl, ?_⟩) ?_ ?_
  rotate_left
  · intro w'
    go_simp
    with_reducible rfl
  rotate_left
  · simp only [Act.put, List.setIfInBounds_toArray, List.set_cons_zero, List.set_cons_succ, i64_w, i32_w]
    rfl
  refine pure_ (i := 14) (N := some 34) (v := ?_) (a' := ?_) #[true, true, true, false, false, false, false, false, true, false, false, false, true, true, true, false, false, false, false] rfl rfl (by kernel_rfl) (fun _ _ _ h => h) (Or.inl ⟨by rfl, ?_⟩) ?_ ?_
  rotate_left
  · intro w'
    go_simp
    with_reducible rfl
  rotate_left
  · simp only [Act.put, List.setIfInBounds_toArray, List.set_cons_zero, List.set_cons_succ, i64_w, i32_w]
    rfl
  refine pure_ (i := 15) (N := some 35) (v := ?_) (a' := ?_) #[true, true, true, false, false, false, false, false, true, false, false, false, true, true, true, true, false, false, false] rfl rfl (by kernel_rfl) (fun _ _ _ h => h) (Or.inl ⟨by rfl, ?_⟩) ?_ ?_
  rotate_left
  · intro w'
    go_simp
    with_reducible rfl
  rotate_left
  · simp only [Act.put, List.setIfInBounds_toArray, List.set_cons_zero, List.set_cons_succ, i64_w, i32_w]
    rfl
  refine pure_ (i := 18) (N := some 38) (v := ?_) (a' := ?_) #[true, true, true, false, false, false, false, false, true, false, false, false, true, true, true, true, false, false, true] rfl rfl (by kernel_rfl) (fun _ _ _ h => h) (Or.inl ⟨by rfl, ?_⟩) ?_ ?_
  rotate_left
  · intro w'
    go_simp
    with_reducible rfl
  rotate_left
  · simp only [Act.put, List.setIfInBounds_toArray, List.set_cons_zero, List.set_cons_succ, i64_w, i32_w]
    rfl
  refine take_ (i := 3) (N := some 23) (v := ?_) (a' := ?_) #[true, true, true, true, false, false, false, false, true, false, false, false, true, true, true, true, false, false, true] rfl rfl (by kernel_rfl) (fun _ _ _ h => h) (Or.inl ⟨by rfl, ?_⟩) hHeld ?_ ?_
  rotate_left
  · rintro w' ⟨s0, s1⟩
    go_simp
    with_reducible rfl
  rotate_left
  · simp only [Act.put, List.setIfInBounds_toArray, List.set_cons_zero, List.set_cons_succ, i64_w, i32_w]
    rfl
  refine take_ (i := 5) (N := some 25) (v := ?_) (a' := ?_) #[true, true, true, true, false, true, false, false, true, false, false, false, true, true, true, true, false, false, true] rfl rfl (by kernel_rfl) (fun _ _ _ h => h) (Or.inl ⟨by rfl, ?_⟩) hHeld ?_ ?_
  rotate_left
  · rintro w' ⟨s0, s1⟩
    go_simp
    with_reducible rfl
  rotate_left
  · simp only [Act.put, List.setIfInBounds_toArray, List.set_cons_zero, List.set_cons_succ, i64_w, i32_w]
    rfl
  refine take_ (i := 9) (N := some 29) (v := ?_) (a' := ?_) #[true, true, true, true, false, true, false, false, true, true, false, false, true, true, true, true, false, false, true] rfl rfl (by kernel_rfl) (fun _ _ _ h => h) (Or.inl ⟨by rfl, ?_⟩) hHeld ?_ ?_
  rotate_left
  · rintro w' ⟨s0, s1⟩
    go_simp
    with_reducible rfl
  rotate_left
  · simp only [Act.put, List.setIfInBounds_toArray, List.set_cons_zero, List.set_cons_succ, i64_w, i32_w]
    rfl
  refine one_ (i := 4) (N := some 24) #[true, true, true, true, true, true, false, false, true, true, false, false, true, true, true, true, false, false, true] rfl rfl (by kernel_rfl) (by decide) (fun K hK => ?_)
  refine goes_ Try.func14 (by kernel_rfl) rfl #[.agg #[.string b, .slice A l.length c]] (by rfl) rfl rfl (by simp only [List.map_toArray, List.map_cons, List.map_nil]; rfl) ?_
  with_reducible refine (base_c b A c l _ (Kd.C_below HC3.out HX.out) HCC.out).mono ?_
  rintro e wx ⟨rfl, hb⟩
  refine ⟨_, rfl, ?_⟩
  rw [← HD.out]
  have n_ := Lib.hid (HX.out.trans (hb.mono HX.out.size)); clear HX; have HX := n_; clear n_ hb
  refine hK.out _ _ ⟨(HX.out.cell hlt.out).trans c0, (HX.out.cell hlt1.out).trans c1⟩ (fun hHeld => ?_)
  clear hK K
  refine norm_ (a' := ?_) ?_ ?_
  rotate_left
  · show Act.put _ (some 24) _ = _
    simp only [Act.put, List.setIfInBounds_toArray, List.set_cons_zero, List.set_cons_succ, i64_w, i32_w]
    rfl
  refine one_ (i := 6) (N := some 26) #[true, true, true, true, true, true, true, false, true, true, false, false, true, true, true, true, false, false, true] rfl rfl (by kernel_rfl) (by decide) (fun K hK => ?_)
  refine goes_ Try.func15 (by kernel_rfl) rfl #[.agg #[.string b, .slice A l.length c]] (by rfl) rfl rfl (by simp only [List.map_toArray, List.map_cons, List.map_nil]; rfl) ?_
  with_reducible refine (target_c b A c l t HT.out _ (Kd.C_below HC3.out HX.out) HCC.out).mono ?_
  rintro e wx ⟨rfl, hb⟩
  refine ⟨_, rfl, ?_⟩
  have n_ := Lib.hid (HX.out.trans (hb.mono HX.out.size)); clear HX; have HX := n_; clear n_ hb
  refine hK.out _ _ ⟨(HX.out.cell hlt.out).trans c0, (HX.out.cell hlt1.out).trans c1⟩ (fun hHeld => ?_)
  clear hK K
  refine norm_ (a' := ?_) ?_ ?_
  rotate_left
  · show Act.put _ (some 26) _ = _
    simp only [Act.put, List.setIfInBounds_toArray, List.set_cons_zero, List.set_cons_succ, i64_w, i32_w]
    rfl
  refine pure_ (i := 7) (N := some 27) (v := ?_) (a' := ?_) #[true, true, true, true, true, true, true, true, true, true, false, false, true, true, true, true, false, false, true] rfl rfl (by kernel_rfl) (fun _ _ _ h => h) (Or.inl ⟨by rfl, ?_⟩) ?_ ?_
  rotate_left
  · intro w'
    go_simp
    with_reducible rfl
  rotate_left
  · simp only [Act.put, List.setIfInBounds_toArray, List.set_cons_zero, List.set_cons_succ, i64_w, i32_w]
    rfl
  refine one_ (i := 10) (N := some 30) #[true, true, true, true, true, true, true, true, true, true, true, false, true, true, true, true, false, false, true] rfl rfl (by kernel_rfl) (by decide) (fun K hK => ?_)
  refine goes_ Try.func15 (by kernel_rfl) rfl #[.agg #[.string b, .slice A l.length c]] (by rfl) rfl rfl (by simp only [List.map_toArray, List.map_cons, List.map_nil]; rfl) ?_
  with_reducible refine (target_c b A c l t HT.out _ (Kd.C_below HC3.out HX.out) HCC.out).mono ?_
  rintro e wx ⟨rfl, hb⟩
  refine ⟨_, rfl, ?_⟩
  have n_ := Lib.hid (HX.out.trans (hb.mono HX.out.size)); clear HX; have HX := n_; clear n_ hb
  refine hK.out _ _ ⟨(HX.out.cell hlt.out).trans c0, (HX.out.cell hlt1.out).trans c1⟩ (fun hHeld => ?_)
  clear hK K
  refine norm_ (a' := ?_) ?_ ?_
  rotate_left
  · show Act.put _ (some 30) _ = _
    simp only [Act.put, List.setIfInBounds_toArray, List.set_cons_zero, List.set_cons_succ, i64_w, i32_w]
    rfl
  refine pure_ (i := 11) (N := some 31) (v := ?_) (a' := ?_) #[true, true, true, true, true, true, true, true, true, true, true, true, true, true, true, true, false, false, true] rfl rfl (by kernel_rfl) (fun _ _ _ h => h) (Or.inl ⟨by rfl, ?_⟩) ?_ ?_
  rotate_left
  · intro w'
    go_simp
    with_reducible rfl
  rotate_left
  · simp only [Act.put, List.setIfInBounds_toArray, List.set_cons_zero, List.set_cons_succ, i64_w, i32_w]
    rfl
  refine one_ (i := 16) (N := some 36) #[true, true, true, true, true, true, true, true, true, true, true, true, true, true, true, true, true, false, true] rfl rfl (by kernel_rfl) (by decide) (fun K hK => ?_)
  refine value_ (w1 := ?_) (v := ?_) (by rfl) rfl ?_ ?_
  rotate_left 2
  · go_simp
    constructor
    · rfl
    · rfl
  refine hK.out _ _ ⟨(World.cell?_alloc_lt _ _ _ (Nat.lt_of_lt_of_le hlt.out HX.out.size)).trans ((HX.out.cell hlt.out).trans c0), (World.cell?_alloc_lt _ _ _ (Nat.lt_of_lt_of_le hlt1.out HX.out.size)).trans ((HX.out.cell hlt1.out).trans c1)⟩ (fun hHeld => ?_)
  clear hK K
  refine norm_ (a' := ?_) ?_ ?_
  rotate_left
  · show Act.put _ (some 36) _ = _
    simp only [Act.put, List.setIfInBounds_toArray, List.set_cons_zero, List.set_cons_succ, i64_w, i32_w]
    rfl
  refine pure_ (i := 17) (N := some 37) (v := ?_) (a' := ?_) #[true, true, true, true, true, true, true, true, true, true, true, true, true, true, true, true, true, true, true] rfl rfl (by kernel_rfl) (fun _ _ _ h => h) (Or.inl ⟨by rfl, ?_⟩) ?_ ?_
  rotate_left
  · intro w'
    go_simp
    with_reducible rfl
  rotate_left
  · simp only [Act.put, List.setIfInBounds_toArray, List.set_cons_zero, List.set_cons_succ, i64_w, i32_w]
    rfl
  refine done_ (by kernel_rfl) ?_
  have HBG := Lib.hid (HBd.out.trans (HX.out.mono HBd.out.size))
  have hG := blk_new wx (.cells #[.string p, .string q, .string d, .string t, .string p, .string t, .string ⟨#[]⟩, .string q, .string p, .string ⟨#[]⟩] 42)
  have hBG2 := below_alloc (Below.refl wx.heap.size wx) (.cells #[.string p, .string q, .string d, .string t, .string p, .string t, .string ⟨#[]⟩, .string q, .string p, .string ⟨#[]⟩] 42)
  obtain ⟨G, hGe⟩ : ∃ G, G = wx.heap.size := ⟨_, rfl⟩
  obtain ⟨wg, hwg⟩ : ∃ W, W = wx.alloc (.cells #[.string p, .string q, .string d, .string t, .string p, .string t, .string ⟨#[]⟩, .string q, .string p, .string ⟨#[]⟩] 42) := ⟨_, rfl⟩
  rw [← hwg, ← hGe] at hG hBG2
  rw [← hwg, ← hGe]
  have HGB := Lib.hid hG
  have HBW := Lib.hid (show Below w.heap.size w wg from HBG.out.trans ((hGe ▸ hBG2 : Below wx.heap.size wx wg).mono HBG.out.size))
  clear hG hBG2 hGe hwg
  have pairs : ∀ j : Nat, j < 5 → ∃ x y : ByteArray, Pair wg G j x y q := by
    intro j hj
    have hz := HZ.out
    match j, hj with
    | 0, _ => exact ⟨p, q, get5 HGB.out 0 _ rfl, get5 HGB.out 1 _ rfl, by omega, by omega⟩
    | 1, _ => exact ⟨d, t, get5 HGB.out 2 _ rfl, get5 HGB.out 3 _ rfl, by omega, by omega⟩
    | 2, _ => exact ⟨p, t, get5 HGB.out 4 _ rfl, get5 HGB.out 5 _ rfl, by omega, by omega⟩
    | 3, _ => exact ⟨⟨#[]⟩, q, get5 HGB.out 6 _ rfl, get5 HGB.out 7 _ rfl, by decide, by omega⟩
    | 4, _ => exact ⟨p, ⟨#[]⟩, get5 HGB.out 8 _ rfl, get5 HGB.out 9 _ rfl, by omega, by decide⟩
  have HPS := Lib.hid pairs
  clear pairs
  go_wp2
  go_loopg [38] 6 (fun kq v38 w' => ∃ (x : Int) (j : Nat), v38 = .int .i64 x ∧ x = (j : Int) ∧ j + kq = 6 ∧ j ≤ 5 ∧ Below wg.heap.size wg w')
  case atStart => exact ⟨0, 0, rfl, rfl, rfl, by omega, Below.refl _ _⟩
  case round =>
    clear c0 c1 HX
    obtain ⟨xj, j, rfl, hj, hjk, hj5, hB⟩ := hrel
    cases gk with
    | zero => omega
    | succ k1 =>
      by_cases hlt5 : j < 5
      · obtain ⟨x, y, hP⟩ := HPS.out j hlt5
        have d1 : decide (xj < 5) = true := decide_eq_true (by omega)
        have s1 : (0 ≤ xj) = True := eq_true (by omega)
        have s2 : (xj < 5) = True := eq_true (by omega)
        have s3 : decide (0 ≤ xj) = true := decide_eq_true (by omega)
        have hjt : xj.toNat = j := by omega
        have g0 : wr.cell? ⟨G, xj.toNat * 2, none⟩ = some (.string x) := by rw [hjt]; exact (hB.cell (World.block_lt_of_cell? _ _ hP.cx)).trans hP.cx
        have g1 : wr.cell? ⟨G, xj.toNat * 2 + 1, none⟩ = some (.string y) := by rw [hjt]; exact (hB.cell (World.block_lt_of_cell? _ _ hP.cy)).trans hP.cy
        have hGlt : G < wr.heap.size := World.block_lt_of_cell? _ _ g0
        have HJ := Lib.hid (show j < 5 ∧ j + 1 + k1 = 6 from ⟨hlt5, by omega⟩)
        have hwx := Lib.hid (show wrap64 (xj + 1) = ((j + 1 : Nat) : Int) by unfold wrap64; omega)
        have HB5 := Lib.hid hB
        have HPR := Lib.hid hP
        have e1 : (y.toList == y.toList) = true := beq_self_eq_true _
        have e2 : (y.toList != y.toList) = false := bne_eq_false_iff_eq.2 rfl
        have z9 : (x.size + q.size ≤ 9223372036854775807) = True := eq_true (by have := hP.zx; have := HZ.out; omega)
        have z10 : (9223372036854775807 < x.size + q.size) = False := eq_false (by have := hP.zx; have := HZ.out; omega)
        clear hlt5 hP hj hjk hj5 hB hjt
        go_wp2_with (first
          | (go_at_call 12; with_reducible refine (make_c x y (by have := HPR.out.zx; omega) (by have := HPR.out.zy; omega) _).mono ?_; rintro e w4 ⟨rfl, hb4⟩; have HB4 := Lib.hid ((below_alloc (Below.refl wr.heap.size wr) (.cells #[.string x, .string y] 42)).trans (hb4.mono (Nat.le_of_lt (blk_lt (blk_new wr (.cells #[.string x, .string y] 42)))))); have HL4 := Lib.hid ((hb4.block _ (blk_lt (blk_new wr (.cells #[.string x, .string y] 42)))).trans (blk_new wr (.cells #[.string x, .string y] 42))); have q0 := ck HL4.out 0 _ rfl; have q1 := ck HL4.out 1 _ rfl; clear hb4)
          | (go_at_call 16; first
            | (with_reducible refine (back_c0 x y (by have := HPR.out.zx; omega) (by have := HPR.out.zy; omega) _).mono ?_; rintro e w5 ⟨rfl, hb5⟩; have HB6 := Lib.hid (HB4.out.trans (hb5.mono HB4.out.size)); have HL5 := Lib.hid ((hb5.block _ (blk_lt HL4.out)).trans HL4.out); have r0 := ck HL5.out 0 _ rfl; have r1 := ck HL5.out 1 _ rfl; clear hb5)
            | (with_reducible refine (back_c x y q (by have := HPR.out.zx; omega) (by have := HPR.out.zy; omega) (by have := HZ.out; omega) _).mono ?_; rintro e w6 ⟨rfl, hb6⟩; have HB7 := Lib.hid (HB6.out.trans (hb6.mono HB6.out.size)); have HL6 := Lib.hid ((hb6.block _ (blk_lt HL5.out)).trans HL5.out); have v0 := ck HL6.out 0 _ rfl; have v1 := ck HL6.out 1 _ rfl; clear hb6)))
        go_roundg k1
        case measure => have := HJ.out; omega
        case rel => exact ⟨_, j + 1, rfl, hwx.out, by have := HJ.out; omega, by have := HJ.out; omega, HB5.out.trans (HB7.out.mono HB5.out.size)⟩
      · have d1 : decide (xj < 5) = false := decide_eq_false (by omega)
        have HB5 := Lib.hid hB
        clear hj hjk hj5 hlt5 hB
        go_wp2
        go_ret
        exact ⟨rfl, HBW.out.trans (HB5.out.mono HBW.out.size)⟩
end Go.Proofs.Ytjjpiedcdcdejaa.Pure
