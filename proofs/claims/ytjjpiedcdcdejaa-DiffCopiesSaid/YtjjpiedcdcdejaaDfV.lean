/- The law DiffCopies, walked. -/
import Derived.Test.YtjjpiedcdcdejaaDfT
set_option linter.unusedVariables false
set_option linter.unusedSimpArgs false
namespace Go.Proofs.Ytjjpiedcdcdejaa.Pure
open Go.RowKit Go.Proofs.Ytjjpiedcdcdejaa.Pb Go.Proofs.YtjjpiedcdcdejaaW.PrintWords Go.Proofs.YtjjpiedcdcdejaaW.PrintLast Go.Proofs.YtjjpiedcdcdejaaW.PrintMore Go.Proofs.Ytjjpiedcdcdejaa.Gw
open Go.Proofs.Ytjjpiedcdcdejaa.Df (diff_Make.f diff_Make.calls diff_Apply.f diff_Apply.calls Pcs ck applyF R_some append_str1)
attribute [local go_sem] max2_int min2_int max_two min_two
def cut20 (s : ByteArray) : ByteArray := s.extract 0 (min s.size 20)
theorem cut20_size (s : ByteArray) : (cut20 s).size ≤ 20 := by rw [cut20, ByteArray.size_extract]; omega
/-- The texts. -/
def T0 (l : List ByteArray) : List ByteArray := (l.take 6).map cut20
theorem T0_len (l : List ByteArray) : (T0 l).length = min 6 l.length := by rw [T0, List.length_map, List.length_take]
theorem T0_small (l : List ByteArray) : ∀ t ∈ T0 l, t.size ≤ 20 := by
  intro t ht
  obtain ⟨x, _, rfl⟩ := List.mem_map.1 ht
  exact cut20_size x
theorem T0_snoc (l : List ByteArray) (j : Nat) (x : ByteArray) (hj : j < 6) (hx : l[j]? = some x) : (T0 l).take (j + 1) = (T0 l).take j ++ [cut20 x] := by
  rw [List.take_add_one]
  congr 1
  rw [T0, List.getElem?_map, List.getElem?_take_of_lt hj, hx]
  rfl
/-- What both Apply answer. -/
theorem both_c (s d : ByteArray) (hs : s.size ≤ 1000000) (hd : d.size ≤ 9000) : ∃ (r : ByteArray) (e : Int), (∀ w, Calls Try.prog 16 #[.string s, .string d] w fun x w' => x = .returned (.tuple #[.string r, .int .i64 e]) ∧ Below w.heap.size w w') ∧
    (∀ w, Calls Try.prog 17 #[.string s, .string d] w fun x w' => x = .returned (.tuple #[.string r, .int .i64 e]) ∧ Below w.heap.size w w') := by
  obtain ⟨⟨r, e⟩, h1, h2⟩ := Apply_same s d hs hd
  obtain ⟨k1, hk1⟩ := h1.rounds
  obtain ⟨k2, hk2⟩ := h2.rounds
  exact ⟨r, e, fun w => diff_Apply.calls k1 s d r e w hk1, fun w => abugidaref24_Apply.calls k2 s d r e w hk2⟩
theorem codeB_less (cs : List Int) (ts : List ByteArray) (hc : cs.length ≤ 8) (ho : Ok64 cs) (ht : ts.length ≤ 100) (hz : ∀ t ∈ ts, t.size ≤ 20) : Small cs ts ∧ (codeB cs ts).size ≤ 9000 := by
  have hS : Small cs ts := ⟨by omega, by omega, ho, fun t h => by have := hz t h; omega⟩
  refine ⟨hS, ?_⟩
  have h1 := IntsB_size cs hS.c hS.o
  have h2 := join_size TextB 30 ts (IntB (ts.length : Int)) (fun t h => by have := hz t h; have := TextB_size t (by omega); omega)
  have h3 := IntB_small (ts.length : Int) (by omega) (by omega)
  have e : TextsB ts = join TextB ts (IntB (ts.length : Int)) := rfl
  rw [codeB, ByteArray.size_append, e]
  omega
theorem cut20_facts (t : ByteArray) (j : Int) (h : (if (20 : Int) < (t.size : Int) then 20 else (t.size : Int)) = j) : (0 ≤ j) = True ∧ (j ≤ (t.size : Int)) = True ∧ t.extract 0 j.toNat = cut20 t := by
  refine ⟨eq_true (by rw [← h]; split <;> omega), eq_true (by rw [← h]; split <;> omega), ?_⟩
  unfold cut20
  congr 1
  rw [← h]
  split <;> omega
/-- A row of at most six small texts. -/
def Small6 (W : World) (base : Nat) (v : Value) : Prop := ∃ T : List ByteArray, T.length ≤ 6 ∧ (∀ t ∈ T, t.size ≤ 20) ∧ Kd.string.R 9 W base (fun _ => True) v T
theorem Small6.alloc {W : World} {base : Nat} {v : Value} (h : Small6 W base v) (o : Obj) : Small6 (W.alloc o) base v := by
  obtain ⟨T, h1, h2, h3⟩ := h
  exact ⟨T, h1, h2, Kd.R_alloc h3 o⟩
theorem Small6.over {W W1 : World} {base : Nat} {v v' : Value} (h : Small6 W base v) (ht : ∀ k, v'.ownBlock = some k → ∃ cells, W.heap[k]? = some (.cells cells 3 (0, 0))) (hg : W.grownBy W1 v'.ownBlock) : Small6 W1 base v := by
  obtain ⟨T, h1, h2, h3⟩ := h
  exact ⟨T, h1, h2, Kd.R_over' h3 ht (by decide) hg⟩
def NearR (W : World) (base : Nat) (v : Value) (m : Nat) : Prop := ∃ N' : List Int, N'.length = m ∧ Ok64 N' ∧ (Kd.int .i64).R 3 W base (fun _ => True) v N'
theorem code_n (cs : List Int) (ts : List ByteArray) (n p : Nat) (hn : cs.length = n) (hp : ts.length = p) (hS : Small cs ts) (A0 : Option Addr) (c0 : Nat) (A1 : Option Addr) (c1 : Nat) (w : World) (h0 : Kd.C (Kd.int .i64) w A0 n cs) (k0 : n ≤ c0) (h1 : Kd.C Kd.string w A1 p ts) (k1 : p ≤ c1) :
    Calls Try.prog 18 #[.slice A0 n c0, .slice A1 p c1] w fun e w' => e = .returned (.string (codeB cs ts)) ∧ Below w.heap.size w w' := by
  subst hn hp
  exact code_c cs ts hS A0 c0 A1 c1 w h0 k0 h1 k1
theorem R_empty (W : World) (base : Nat) (h : base ≤ W.heap.size) : (Kd.int .i64).R 3 (W.alloc (.cells #[] 3)) base (fun _ => True) (.slice (some ⟨W.heap.size, 0, none⟩) 0 0) [] := by
  have h1 := World.ownsRow_lit (base := base) (e := 3) (size := 1) W #[] 0 h (by decide) (by rfl)
  exact ⟨fun _ _ => trivial, [], h1, Reps.none _ _⟩
set_option maxHeartbeats 8000000 in
set_option maxRecDepth 100000 in
theorem diffCopies_walk (w : World) (a0 : ByteArray) (A0 : Option Addr) (c0 : Nat) (n0 : List Int) (hC0 : Kd.C (Kd.int .i64) w A0 n0.length n0) (hc0 : n0.length ≤ c0) (hl0 : n0.length ≤ 9223372036854775807) (hw0 : Ok64 n0)
    (A1 : Option Addr) (c1 : Nat) (l1 : List ByteArray) (hC1 : Kd.C Kd.string w A1 l1.length l1) (hc1 : l1.length ≤ c1) (hl1 : l1.length ≤ 9223372036854775807) :
    Calls Try.prog 5 #[.string a0, .agg #[.slice A0 n0.length c0, .slice A1 l1.length c1]] w fun e w' => e = .returned (.bool true) ∧ Below w.heap.size w w' := by
  have zb := cut200_size a0
  obtain ⟨b, hb⟩ : ∃ b, b = cut200 a0 := ⟨_, rfl⟩
  rw [← hb] at zb
  have HBE := Lib.hid hb
  have HZ := Lib.hid zb
  have HC0 := Lib.hid hC0
  have HC1 := Lib.hid hC1
  have HL0 := Lib.hid (show n0.length ≤ c0 ∧ n0.length ≤ 9223372036854775807 from ⟨hc0, hl0⟩)
  have HL1 := Lib.hid (show l1.length ≤ c1 ∧ l1.length ≤ 9223372036854775807 from ⟨hc1, hl1⟩)
  have HW0 := Lib.hid hw0
  obtain ⟨Wb, hWb⟩ : ∃ W, W = w.alloc (.cells #[.slice A0 n0.length c0, .slice A1 l1.length c1] 38) := ⟨_, rfl⟩
  have hbb : Below w.heap.size w Wb := by rw [hWb]; exact below_alloc (Below.refl _ _) _
  have hbl : Wb.heap[w.heap.size]? = some (.cells #[.slice A0 n0.length c0, .slice A1 l1.length c1] 38 (0, 0)) := by rw [hWb]; exact blk_new w _
  have HBB := Lib.hid hbb
  have HBL := Lib.hid hbl
  have HWb := Lib.hid hWb
  have HX0 := Lib.hid (Below.refl Wb.heap.size Wb)
  clear hb zb hC0 hC1 hc0 hl0 hc1 hl1 hw0 hbb hbl hWb
  go_enter Try.func5, Try.ntmps5
  go_wp2_with (first
    | (go_at_call 10; rw [← HWb.out]; with_reducible refine (san_c _).mono ?_; rintro e w1 ⟨rfl, hb1⟩; have HB1 := Lib.hid hb1; clear hb1)
    | (go_at_call 11; with_reducible refine (cut_c a0 w1).mono ?_; rw [← HBE.out]; rintro e w2 ⟨rfl, hb2⟩; have HB2 := Lib.hid (HB1.out.trans (hb2.mono HB1.out.size)); clear hb2))
  go_loopg [6, 7] 7 (fun kq v6 v7 w' => ∃ (x : Int) (j : Nat), v7 = .int .i64 x ∧ x = (j : Int) ∧ j + kq = 7 ∧ j ≤ 6 ∧ j ≤ l1.length ∧ Below Wb.heap.size Wb w' ∧ Kd.string.R 9 w' Wb.heap.size (fun _ => True) v6 ((T0 l1).take j))
  case atStart => exact ⟨0, 0, rfl, rfl, rfl, by omega, by omega, HB2.out, Kd.R_nil _ _ _ _ _⟩
  case round =>
    obtain ⟨x, j, rfl, hx, hjk, hj6, hjl, hB, hO⟩ := hrel
    cases gk with
    | zero => omega
    | succ k1 =>
      have g0 : wr.cell? ⟨w.heap.size, 0, none⟩ = some (.slice A0 n0.length c0) := ck ((hB.block _ (blk_lt HBL.out)).trans HBL.out) 0 _ rfl
      have g1 : wr.cell? ⟨w.heap.size, 1, none⟩ = some (.slice A1 l1.length c1) := ck ((hB.block _ (blk_lt HBL.out)).trans HBL.out) 1 _ rfl
      by_cases hlt : j < l1.length ∧ j < 6
      · obtain ⟨t, ht⟩ : ∃ t, l1[j]? = some t := ⟨_, List.getElem?_eq_getElem hlt.1⟩
        have d1 : decide (x < (l1.length : Int)) = true := decide_eq_true (by omega)
        have d2 : decide (x < 6) = true := decide_eq_true (by omega)
        have p1 : 0 ≤ x := by omega
        have q1 : x < (l1.length : Int) := by omega
        obtain ⟨ad, had, hcell⟩ := Kd.at_string (Kd.C_below HC1.out HBB.out) x p1 q1
        subst had
        have hrd : rdOf ByteArray.empty l1 x = t := by rw [hx]; exact rd_some' ht
        rw [hrd] at hcell
        have c0d : wr.drew.cell? (ad.add x.toNat) = some (.string t) := (hB.cell (World.block_lt_of_cell? _ _ hcell)).trans hcell
        have FB0 := Lib.hid hcell
        have FB1 := Lib.hid (show Wb.cell? ⟨w.heap.size, 1, none⟩ = some (.slice (some ad) l1.length c1) from ck HBL.out 1 _ rfl)
        have c1d : wr.drew.cell? ⟨w.heap.size, 1, none⟩ = some (.slice (some ad) l1.length c1) := g1
        obtain ⟨jm, e20⟩ : ∃ j : Int, (if (20 : Int) < (t.size : Int) then 20 else (t.size : Int)) = j := ⟨_, rfl⟩
        obtain ⟨s1, s2, hcu⟩ := cut20_facts t jm e20
        have HCU := Lib.hid hcu
        clear hcu
        have s3 : (0 ≤ x) = True := eq_true p1
        have s4 : (x < (l1.length : Int)) = True := eq_true q1
        have s5 : decide (0 ≤ x) = true := decide_eq_true p1
        have hlt0 := Lib.hid (World.block_lt_of_cell? _ _ c0d)
        have hlt1 := Lib.hid (World.block_lt_of_cell? _ _ c1d)
        have HOd := Lib.hid (Kd.R_drew hO)
        have HBd := Lib.hid hB.drew
        have HT := Lib.hid ht
        have HJ := Lib.hid (show j < 6 ∧ j < l1.length ∧ j + 1 + k1 = 7 from ⟨hlt.2, hlt.1, by omega⟩)
        have hwx := Lib.hid (show wrap64 (x + 1) = ((j + 1 : Nat) : Int) by unfold wrap64; omega)
        have hsz := Lib.hid (show ((T0 l1).take j).length ≤ 6 by rw [List.length_take]; omega)
        clear g0 hrd hcell hlt hjk hj6 hjl hB hO p1 q1 hx ht
        go_wp2
        refine start_ (n := 17) (S := fun w' => w'.cell? (ad.add x.toNat) = some (.string t) ∧ w'.cell? ⟨w.heap.size, 1, none⟩ = some (.slice (some ad) l1.length c1)) (ds := []) #[false, false, false, false, false, false, false, false, false, false, false, false, false, false, false, false, false] (by kernel_rfl) rfl rfl ⟨c0d, c1d⟩ (fun hHeld => ?_)
        generalize wr.drew = wd at HOd HBd c0d c1d hlt0 hlt1 hHeld ⊢
        refine pure_ (i := 0) (N := some 36) (v := ?_) (a' := ?_) #[true, false, false, false, false, false, false, false, false, false, false, false, false, false, false, false, false] rfl rfl (by kernel_rfl) (fun _ _ _ h => h) (Or.inl ⟨by rfl, ?_⟩) ?_ ?_
        rotate_left
        · intro w'
          go_simp
          with_reducible rfl
        rotate_left
        · simp only [Act.put, List.setIfInBounds_toArray, List.set_cons_zero, List.set_cons_succ, i64_w, i32_w]
          rfl
        refine pure_ (i := 1) (N := some 37) (v := ?_) (a' := ?_) #[true, true, false, false, false, false, false, false, false, false, false, false, false, false, false, false, false] rfl rfl (by kernel_rfl) (fun _ _ _ h => h) (Or.inl ⟨by rfl, ?_⟩) ?_ ?_
        rotate_left
        · intro w'
          go_simp
          with_reducible rfl
        rotate_left
        · simp only [Act.put, List.setIfInBounds_toArray, List.set_cons_zero, List.set_cons_succ, i64_w, i32_w]
          rfl
        refine pure_ (i := 3) (N := some 39) (v := ?_) (a' := ?_) #[true, true, false, true, false, false, false, false, false, false, false, false, false, false, false, false, false] rfl rfl (by kernel_rfl) (fun _ _ _ h => h) (Or.inl ⟨by rfl, ?_⟩) ?_ ?_
        rotate_left
        · intro w'
          go_simp
          with_reducible rfl
        rotate_left
        · simp only [Act.put, List.setIfInBounds_toArray, List.set_cons_zero, List.set_cons_succ, i64_w, i32_w]
          rfl
        refine pure_ (i := 6) (N := some 42) (v := ?_) (a' := ?_) #[true, true, false, true, false, false, true, false, false, false, false, false, false, false, false, false, false] rfl rfl (by kernel_rfl) (fun _ _ _ h => h) (Or.inl ⟨by rfl, ?_⟩) ?_ ?_
        rotate_left
        · intro w'
          go_simp
          with_reducible rfl
        rotate_left
        · simp only [Act.put, List.setIfInBounds_toArray, List.set_cons_zero, List.set_cons_succ, i64_w, i32_w]
          rfl
        refine pure_ (i := 8) (N := some 44) (v := ?_) (a' := ?_) #[true, true, false, true, false, false, true, false, true, false, false, false, false, false, false, false, false] rfl rfl (by kernel_rfl) (fun _ _ _ h => h) (Or.inl ⟨by rfl, ?_⟩) ?_ ?_
        rotate_left
        · intro w'
          go_simp
          with_reducible rfl
        rotate_left
        · simp only [Act.put, List.setIfInBounds_toArray, List.set_cons_zero, List.set_cons_succ, i64_w, i32_w]
          rfl
        refine take_ (i := 2) (N := some 38) (v := ?_) (a' := ?_) #[true, true, true, true, false, false, true, false, true, false, false, false, false, false, false, false, false] rfl rfl (by kernel_rfl) (fun _ _ _ h => h) (Or.inl ⟨by rfl, ?_⟩) hHeld ?_ ?_
        rotate_left
        · rintro w' ⟨s0, s1⟩
          go_simp
          with_reducible rfl
        rotate_left
        · simp only [Act.put, List.setIfInBounds_toArray, List.set_cons_zero, List.set_cons_succ, i64_w, i32_w]
          rfl
        refine pure_ (i := 4) (N := some 40) (v := ?_) (a' := ?_) #[true, true, true, true, true, false, true, false, true, false, false, false, false, false, false, false, false] rfl rfl (by kernel_rfl) (fun _ _ _ h => h) (Or.inl ⟨by rfl, ?_⟩) ?_ ?_
        rotate_left
        · intro w'
          go_simp
          with_reducible rfl
        rotate_left
        · simp only [Act.put, List.setIfInBounds_toArray, List.set_cons_zero, List.set_cons_succ, i64_w, i32_w]
          rfl
        refine take_ (i := 5) (N := some 41) (v := ?_) (a' := ?_) #[true, true, true, true, true, true, true, false, true, false, false, false, false, false, false, false, false] rfl rfl (by kernel_rfl) (fun _ _ _ h => h) (Or.inl ⟨by rfl, ?_⟩) hHeld ?_ ?_
        rotate_left
        · rintro w' ⟨s0, s1⟩
          go_simp
          with_reducible rfl
        rotate_left
        · simp only [Act.put, List.setIfInBounds_toArray, List.set_cons_zero, List.set_cons_succ, i64_w, i32_w]
          rfl
        refine take_ (i := 7) (N := some 43) (v := ?_) (a' := ?_) #[true, true, true, true, true, true, true, true, true, false, false, false, false, false, false, false, false] rfl rfl (by kernel_rfl) (fun _ _ _ h => h) (Or.inl ⟨by rfl, ?_⟩) hHeld ?_ ?_
        rotate_left
        · rintro w' ⟨s0, s1⟩
          go_simp
          with_reducible rfl
        rotate_left
        · simp only [Act.put, List.setIfInBounds_toArray, List.set_cons_zero, List.set_cons_succ, i64_w, i32_w]
          rfl
        refine pure_ (i := 9) (N := some 45) (v := ?_) (a' := ?_) #[true, true, true, true, true, true, true, true, true, true, false, false, false, false, false, false, false] rfl rfl (by kernel_rfl) (fun _ _ _ h => h) (Or.inl ⟨by rfl, ?_⟩) ?_ ?_
        rotate_left
        · intro w'
          go_simp
          with_reducible rfl
        rotate_left
        · simp only [Act.put, List.setIfInBounds_toArray, List.set_cons_zero, List.set_cons_succ, i64_w, i32_w]
          rfl
        refine take_ (i := 10) (N := some 46) (v := ?_) (a' := ?_) #[true, true, true, true, true, true, true, true, true, true, true, false, false, false, false, false, false] rfl rfl (by kernel_rfl) (fun _ _ _ h => h) (Or.inl ⟨by rfl, ?_⟩) hHeld ?_ ?_
        rotate_left
        · rintro w' ⟨s0, s1⟩
          go_simp
          with_reducible rfl
        rotate_left
        · simp only [Act.put, List.setIfInBounds_toArray, List.set_cons_zero, List.set_cons_succ, i64_w, i32_w]
          rfl
        refine pure_ (i := 11) (N := some 47) (v := ?_) (a' := ?_) #[true, true, true, true, true, true, true, true, true, true, true, true, false, false, false, false, false] rfl rfl (by kernel_rfl) (fun _ _ _ h => h) (Or.inl ⟨by rfl, ?_⟩) ?_ ?_
        rotate_left
        · intro w'
          go_simp
          with_reducible rfl
        rotate_left
        · simp only [Act.put, List.setIfInBounds_toArray, List.set_cons_zero, List.set_cons_succ, i64_w, i32_w]
          rfl
        refine pure_ (i := 12) (N := some 48) (v := ?_) (a' := ?_) #[true, true, true, true, true, true, true, true, true, true, true, true, true, false, false, false, false] rfl rfl (by kernel_rfl) (fun _ _ _ h => h) (Or.inl ⟨by rfl, ?_⟩) ?_ ?_
        rotate_left
        · intro w'
          go_simp
          with_reducible rfl
        rotate_left
        · simp only [Act.put, List.setIfInBounds_toArray, List.set_cons_zero, List.set_cons_succ, i64_w, i32_w]
          rfl
        refine pure_ (i := 13) (N := some 49) (v := ?_) (a' := ?_) #[true, true, true, true, true, true, true, true, true, true, true, true, true, true, false, false, false] rfl rfl (by kernel_rfl) (fun _ _ _ h => h) (Or.inl ⟨by rfl, ?_⟩) ?_ ?_
        rotate_left
        · intro w'
          go_simp
          with_reducible rfl
        rotate_left
        · simp only [Act.put, List.setIfInBounds_toArray, List.set_cons_zero, List.set_cons_succ, i64_w, i32_w]
          rfl
        refine one_ (i := 14) (N := some 50) #[true, true, true, true, true, true, true, true, true, true, true, true, true, true, true, false, false] rfl rfl (by kernel_rfl) (by decide) (fun K hK => ?_)
        refine value_ (w1 := ?_) (v := ?_) (by rfl) rfl ?_ ?_
        rotate_left 2
        · go_simp
          constructor
          · rfl
          · rfl
        refine hK.out _ _ ⟨(World.cell?_alloc_lt _ _ _ hlt0.out).trans c0d, (World.cell?_alloc_lt _ _ _ hlt1.out).trans c1d⟩ (fun hHeld => ?_)
        clear hK K
        refine norm_ (a' := ?_) ?_ ?_
        rotate_left
        · show Act.put _ (some 50) _ = _
          simp only [Act.put, List.setIfInBounds_toArray, List.set_cons_zero, List.set_cons_succ, i64_w, i32_w]
          rfl
        refine one_ (i := 15) (N := some 51) #[true, true, true, true, true, true, true, true, true, true, true, true, true, true, true, true, false] rfl rfl (by kernel_rfl) (by decide) (fun K hK => ?_)
        refine Kd.R_append_step Kd.string (w0 := Wb) Wb.heap.size (by rfl) (.tmp 36) (.tmp 50) 32 9 (.string ⟨#[]⟩) 16 rfl Try.underlying32 info9 rfl (by decide) (by omega) _ ((T0 l1).take j) (t.extract 0 jm.toNat) [.string (t.extract 0 jm.toNat)] (fun _ => True) (fun _ => False) rfl rfl ?aP (fun _ hk => hk.elim) ?aF ?aO ?aB ?aS ?aL ?_
        (case aP => exact rfl)
        (case aF => exact fun _ _ => trivial)
        (case aO => exact HOd.out)
        (case aB => exact HBd.out)
        (case aS => exact HBd.out.size)
        (case aL => have := hsz.out; omega)
        intro v9 w9 ho9 hb9 hg9 hat9
        have HO9 := Lib.hid ho9
        have HB9 := Lib.hid hb9
        have hc9 := hg9
        clear ho9 hb9 hat9
        refine hK.out _ _ ⟨(HB9.out.cell (World.block_lt_of_cell? _ _ FB0.out)).trans FB0.out, (HB9.out.cell (World.block_lt_of_cell? _ _ FB1.out)).trans FB1.out⟩ (fun hHeld => ?_)
        clear hK K
        refine norm_ (a' := ?_) ?_ ?_
        rotate_left
        · show Act.put _ (some 51) _ = _
          simp only [Act.put, List.setIfInBounds_toArray, List.set_cons_zero, List.set_cons_succ, i64_w, i32_w]
          rfl
        refine pure_ (i := 16) (N := some 6) (v := ?_) (a' := ?_) #[true, true, true, true, true, true, true, true, true, true, true, true, true, true, true, true, true] rfl rfl (by kernel_rfl) (fun _ _ _ h => h) (Or.inl ⟨by rfl, ?_⟩) ?_ ?_
        rotate_left
        · intro w'
          go_simp
          with_reducible rfl
        rotate_left
        · simp only [Act.put, List.setIfInBounds_toArray, List.set_cons_zero, List.set_cons_succ, i64_w, i32_w]
          rfl
        refine done_ (by kernel_rfl) ?_
        go_wp2
        go_roundg k1
        case measure => have := HJ.out; omega
        case rel => exact ⟨_, j + 1, rfl, hwx.out, by have := HJ.out; omega, by have := HJ.out; omega, by have := HJ.out; omega, HB9.out, by rw [T0_snoc l1 j t HJ.out.1 HT.out, ← HCU.out]; exact HO9.out⟩
      · have hj : (T0 l1).take j = T0 l1 := List.take_of_length_le (by rw [T0_len]; omega)
        rw [hj] at hO
        obtain ⟨m, hm, hm8, hmn⟩ : ∃ m : Nat, (if (8 : Int) < (n0.length : Int) then 8 else (n0.length : Int)) = (m : Int) ∧ m ≤ 8 ∧ m ≤ n0.length := by
          refine ⟨min n0.length 8, ?_, by omega, by omega⟩
          split <;> omega
        obtain ⟨L, hLe⟩ : ∃ L, L = n0.take m := ⟨_, rfl⟩
        have hLm : L.length = m := by rw [hLe, List.length_take]; omega
        have hLo : Ok64 L := fun y hy => HW0.out y (by rw [hLe] at hy; exact List.mem_of_mem_take hy)
        have hLC : Kd.C (Kd.int .i64) w A0 m L := by
          have := Kd.C_take HC0.out hmn
          rw [← hLe, hLm] at this
          exact this
        have HLC := Lib.hid hLC
        have HLM := Lib.hid (show L.length = m ∧ m ≤ 8 ∧ m ≤ n0.length from ⟨hLm, hm8, hmn⟩)
        have HLO := Lib.hid hLo
        have m1 : (0 ≤ (m : Int)) = True := eq_true (by omega)
        have m2 : ((m : Int) ≤ (n0.length : Int)) = True := eq_true (by omega)
        have m3 : (m ≤ n0.length) = True := eq_true hmn
        have HO := Lib.hid hO
        have HB := Lib.hid hB
        have HT0 := Lib.hid (show (T0 l1).length ≤ 6 ∧ ∀ t ∈ T0 l1, t.size ≤ 20 from ⟨by rw [T0_len]; omega, T0_small l1⟩)
        have HOT := Lib.hid (show Small6 wr Wb.heap.size u6 from ⟨T0 l1, HT0.out.1, HT0.out.2, HO.out⟩)
        have c8 : w.heap.size < wr.heap.size := World.block_lt_of_cell? _ _ g0
        have key : (decide (x < (l1.length : Int)) = true ∧ decide (x < 6) = false) ∨ decide (x < (l1.length : Int)) = false := by
          by_cases hlt2 : j < l1.length
          · exact .inl ⟨decide_eq_true (by omega), decide_eq_false (by omega)⟩
          · exact .inr (decide_eq_false (by omega))
        clear hLe hLm hLo hLC hlt hjk hj6 hjl hB hO hx hj hm8 hmn
        obtain ⟨i0, hi0, -, -, -⟩ := info_parts info3
        have hcut := cut_to (P := Try.prog) 22 3 .i64 Try.underlying22 hi0 A0 n0.length c0 (m : Int) (by omega) (by have := HLM.out; omega) HL0.out.1
        rw [Int.toNat_natCast] at hcut
        rcases key with ⟨d1, d2⟩ | d1 <;>
        ( go_wp2_with ((with_reducible refine gate_builtin (b := .append) (xs := #[.tmp 59, .tmp 60]) rfl ?_); at_builtin; go_loud (refine Kd.R_append_rows (Kd.int .i64) (w0 := Wb) Wb.heap.size rfl (.tmp 59) (.tmp 60) 22 3 (.int .i64 0) 8 rfl Try.underlying22 info3 rfl (by decide) (by omega) (.slice (some ⟨wr.heap.size, 0, none⟩) 0 0) [] L A0 m c0 (fun _ => True) (fun _ => False) rfl rfl ?aO ?aR (fun _ _ h => h) (fun _ h => h.elim) (fun _ _ => trivial) ?aB ?aS ?aL ?_; (case aO => exact R_empty wr Wb.heap.size HB.out.size); (case aR => exact Kd.C_alloc (Kd.C_below HLC.out (HBB.out.trans (HB.out.mono HBB.out.size))) _); (case aB => exact below_alloc HB.out _); (case aS => exact (below_alloc HB.out _).size); (case aL => have := HLM.out; show (0 + m) * 8 ≤ _; omega); intro v9 w9 ho9 hb9 hg9 hat9; have HN9 := Lib.hid ho9; have HB9 := Lib.hid hb9; have HT9 := Lib.hid (Small6.over (Small6.alloc HOT.out (.cells #[] 3)) (Kd.R_typed (R_empty wr Wb.heap.size HB.out.size)) hg9); clear ho9 hb9 hg9 hat9))
          obtain ⟨A9, k9, e9⟩ := Kd.R_slice HN9.out
          have hlen9 : ([] ++ L : List Int).length = m := HLM.out.1
          rw [hlen9] at e9
          subst e9
          have HNR := Lib.hid (show NearR w9 Wb.heap.size (.slice A9 m k9) m from ⟨[] ++ L, hlen9, HLO.out, HN9.out⟩)
          clear hlen9 HN9 hcut hi0 m1 m2 m3 d1 HO HOT
          go_loopg [10] (m + 1) (fun kq v10 w' => ∃ (y : Int) (j2 : Nat), v10 = .int .i64 y ∧ y = (j2 : Int) ∧ j2 + kq = m + 1 ∧ j2 ≤ m ∧ Below Wb.heap.size Wb w' ∧ Small6 w' Wb.heap.size u6 ∧ NearR w' Wb.heap.size (.slice A9 m k9) m)
          case atStart => exact ⟨0, 0, rfl, rfl, by omega, by omega, HB9.out, HT9.out, HNR.out⟩
          case round =>
            clear HNR HT9 HB9 HB g0 g1 c8
            obtain ⟨y, j2, rfl, hy, hjk, hj, hB, hS6, N', hNl, hNo, hN⟩ := hrel
            cases gk with
            | zero => omega
            | succ k2 =>
              by_cases hlt : j2 < m
              · have d1 : decide (y < (m : Int)) = true := decide_eq_true (by omega)
                have p13 : 0 ≤ y := by omega
                have q13 : y < (m : Int) := by omega
                obtain ⟨g9, rfl⟩ := R_some hN (by omega)
                obtain ⟨hx13, hf13⟩ := Kd.R_celln 0 hN y p13 q13
                obtain ⟨z, hz⟩ : ∃ z, z = rdOf 0 N' y := ⟨_, rfl⟩
                rw [← hz] at hx13
                have HP := Kd.R_putg hN y (Go.bits .and .i64 z 63)
                have hbz : 0 ≤ Go.bits .and .i64 z 63 ∧ Go.bits .and .i64 z 63 ≤ 63 := and_le z 63 (by omega)
                have hS62 := Small6.over hS6 (Kd.R_typed hN) HP.2
                have s1 : (0 ≤ y) = True := eq_true p13
                have s2 : (y < (m : Int)) = True := eq_true q13
                have s3 : decide (0 ≤ y) = true := decide_eq_true p13
                have hgb : Wb.heap.size ≤ g9 := by
                  obtain ⟨g', c', e', h', -⟩ := Kd.R_form hN (by omega)
                  injection e' with e1 e2 e3
                  injection e1 with e1
                  injection e1 with e1
                  omega
                have HNN := Lib.hid (show NearR (wr.setCell ⟨g9, y.toNat, none⟩ (.int .i64 (Go.bits .and .i64 z 63))) Wb.heap.size (.slice (some ⟨g9, 0, none⟩) m k9) m from ⟨_, by rw [List.length_set]; exact hNl, fun u hu => by
                  rcases List.mem_or_eq_of_mem_set hu with h | h
                  · exact hNo u h
                  · rw [h]; omega, HP.1⟩)
                have HSS := Lib.hid hS62
                have HBj := Lib.hid (hB.setCell (p := ⟨g9, y.toNat, none⟩) hgb (.int .i64 (Go.bits .and .i64 z 63)))
                have hwx := Lib.hid (show wrap64 (y + 1) = ((j2 + 1 : Nat) : Int) by have := HLM.out; unfold wrap64; omega)
                have HJ := Lib.hid (show j2 < m ∧ j2 + 1 + k2 = m + 1 from ⟨hlt, by omega⟩)
                clear HP hB hN hjk hj hlt p13 q13 hy hNl hNo hS6 hS62 hgb hz hbz
                go_wp2
                go_roundg k2
                case measure => have := HJ.out; omega
                case rel => exact ⟨_, j2 + 1, rfl, hwx.out, by have := HJ.out; omega, HJ.out.1, HBj.out, HSS.out, HNN.out⟩
              · have d1 : decide (y < (m : Int)) = false := decide_eq_false (by omega)
                have HBN := Lib.hid hB
                have HS6 := Lib.hid hS6
                have HNR := Lib.hid (show NearR wr Wb.heap.size (.slice A9 m k9) m from ⟨N', hNl, hNo, hN⟩)
                clear hB hN hjk hj hlt hy hNl hNo hS6
                go_wp2
                obtain ⟨H, hH, hH8⟩ : ∃ H : Nat, H = m / 2 + 1 ∧ H ≤ 5 := ⟨_, rfl, by have := HLM.out; omega⟩
                have h1 : wrap64 ((m : Int) / 2) = (m : Int) / 2 := by have := HLM.out; unfold wrap64; omega
                have h2 : wrap64 ((m : Int) / 2 + 1) = (H : Int) := by have := HLM.out; unfold wrap64; omega
                have HH8 := Lib.hid (show H = m / 2 + 1 ∧ H ≤ 5 from ⟨hH, hH8⟩)
                clear hH hH8
                go_loopg [6] 8 (fun kq v6 w' => ∃ T' : List ByteArray, T'.length < kq ∧ T'.length ≤ 6 ∧ (∀ t ∈ T', t.size ≤ 20) ∧ Below Wb.heap.size Wb w' ∧ Kd.string.R 9 w' Wb.heap.size (fun _ => True) v6 T' ∧ NearR w' Wb.heap.size (.slice A9 m k9) m)
                case atStart =>
                  obtain ⟨T', t1, t2, t3⟩ := HS6.out
                  exact ⟨T', by omega, t1, t2, HBN.out, t3, HNR.out⟩
                case round =>
                  clear HNR HS6 HBN
                  obtain ⟨T', hk, t1, t2, hB, t3, hN⟩ := hrel
                  cases gk with
                  | zero => omega
                  | succ k3 =>
                    obtain ⟨A6, k6, rfl⟩ := Kd.R_slice t3
                    obtain ⟨n, hn⟩ : ∃ n, n = T'.length := ⟨_, rfl⟩
                    rw [← hn] at t3
                    rw [← hn]
                    by_cases hlt : H < n
                    · have d1 : decide ((m : Int) / 2 + 1 < (n : Int)) = true := decide_eq_true (by have := HH8.out; omega)
                      obtain ⟨i0, hi0, -, -, -⟩ := info_parts info9
                      have hcut := cut_to (P := Try.prog) 32 9 .i64 Try.underlying32 hi0 A6 n k6 (((n - 1 : Nat) : Int)) (by omega) (by omega) (by have := (Kd.R_reads' t3).2.1; omega)
                      rw [Int.toNat_natCast] at hcut
                      have hw : wrap64 ((n : Int) - 1) = ((n - 1 : Nat) : Int) := by unfold wrap64; omega
                      have ht := Kd.R_take (m := n - 1) t3 (by omega)
                      have HT := Lib.hid ht
                      have HT2 := Lib.hid (show ∀ t ∈ T'.take (n - 1), t.size ≤ 20 from fun t h => t2 t (List.mem_of_mem_take h))
                      have HBj := Lib.hid hB
                      have HNj := Lib.hid hN
                      have HJ := Lib.hid (show n = T'.length ∧ 0 < n ∧ n < k3 + 1 ∧ n ≤ 6 from ⟨hn, by omega, by omega, by omega⟩)
                      clear ht t2 t3 hB hN hlt hk t1 hn
                      go_wp2
                      go_roundg k3
                      case measure => have := HJ.out; omega
                      case rel => exact ⟨T'.take (n - 1), by rw [List.length_take]; have := HJ.out; omega, by rw [List.length_take]; have := HJ.out; omega, HT2.out, HBj.out, HT.out, HNj.out⟩
                    · have d1 : decide ((m : Int) / 2 + 1 < (n : Int)) = false := decide_eq_false (by have := HH8.out; omega)
                      have HS6 := Lib.hid (show Small6 wr Wb.heap.size (.slice A6 n k6) from ⟨T', t1, t2, t3⟩)
                      have HBj := Lib.hid hB
                      have HNj := Lib.hid hN
                      clear t1 t2 t3 hB hN hlt hk hn
                      go_wp2
                      obtain ⟨Gb, hGb⟩ : ∃ g, g = wr.heap.size := ⟨_, rfl⟩
                      obtain ⟨wg, hwg⟩ : ∃ W, W = wr.alloc (.cells #[.slice A0 m c0, .slice A9 m k9] 22) := ⟨_, rfl⟩
                      have hG0 : wg.heap[Gb]? = some (.cells #[.slice A0 m c0, .slice A9 m k9] 22 (0, 0)) := by rw [hwg, hGb]; exact blk_new wr _
                      have hS0 : Small6 wg Wb.heap.size (.slice A6 n k6) := by rw [hwg]; exact Small6.alloc HS6.out _
                      have hN0 : NearR wg Wb.heap.size (.slice A9 m k9) m := by
                        obtain ⟨N', q1, q2, q3⟩ := HNj.out
                        rw [hwg]
                        exact ⟨N', q1, q2, Kd.R_alloc q3 _⟩
                      have hB0 : Below Wb.heap.size Wb wg := by rw [hwg]; exact below_alloc HBj.out _
                      rw [← hGb, ← hwg]
                      have HG0 := Lib.hid hG0
                      have HS0 := Lib.hid hS0
                      have HN0 := Lib.hid hN0
                      have HB0 := Lib.hid hB0
                      clear hG0 hS0 hN0 hB0 hwg hGb HS6 HNj HBj d1
                      go_wp2
                      go_loopg [6, 92] 3 (fun kq v6 v92 w' => ∃ (i : Int) (iN : Nat), v92 = .int .i64 i ∧ i = (iN : Int) ∧ iN + kq = 3 ∧ iN ≤ 2 ∧ Below Wb.heap.size Wb w' ∧ w'.heap[Gb]? = some (.cells #[.slice A0 m c0, .slice A9 m k9] 22 (0, 0)) ∧ Small6 w' Wb.heap.size v6 ∧ NearR w' Wb.heap.size (.slice A9 m k9) m)
                      case atStart => exact ⟨0, 0, rfl, rfl, by omega, by omega, HB0.out, HG0.out, HS0.out, HN0.out⟩
                      case round =>
                        clear HG0 HS0 HN0 HB0
                        obtain ⟨i, iN, rfl, hi, hik, hi2, hB, hG, ⟨T', t1, t2, t3⟩, Nn, n1, n2, n3⟩ := hrel
                        cases gk with
                        | zero => omega
                        | succ k4 =>
                          by_cases hlt : iN < 2
                          · have pick : ∃ (A : Option Addr) (k : Nat) (N' : List Int), wr.cell? ⟨Gb, i.toNat, none⟩ = some (.slice A m k) ∧ N'.length = m ∧ Ok64 N' ∧ m ≤ k ∧ ∀ W, Below Wb.heap.size Wb W → (Kd.int .i64).R 3 W Wb.heap.size (fun _ => True) (.slice A9 m k9) Nn → Kd.C (Kd.int .i64) W A m N' := by
                              rw [hi, Int.toNat_natCast]
                              match iN, hlt with
                              | 0, _ => exact ⟨A0, c0, L, ck hG 0 _ rfl, HLM.out.1, HLO.out, by have := HLM.out; have := HL0.out; omega, fun W hW _ => Kd.C_below HLC.out (HBB.out.trans (hW.mono HBB.out.size))⟩
                              | 1, _ => exact ⟨A9, k9, Nn, ck hG 1 _ rfl, n1, n2, (Kd.R_reads' n3).2.1, fun W _ hR => by have := (Kd.R_reads' hR).2.2; rwa [n1] at this⟩
                            obtain ⟨A, k, N', p1, p2, p3, p4, p5⟩ := pick
                            have d1 : decide (i < 2) = true := decide_eq_true (by omega)
                            have s1 : (0 ≤ i) = True := eq_true (by omega)
                            have s2 : (i < 2) = True := eq_true (by omega)
                            have s3 : decide (0 ≤ i) = true := decide_eq_true (by omega)
                            obtain ⟨A6', k6', rfl⟩ := Kd.R_slice t3
                            obtain ⟨n', hn'⟩ : ∃ n, n = T'.length := ⟨_, rfl⟩
                            rw [← hn'] at t3
                            rw [← hn']
                            have hm8 := HLM.out.2.1
                            obtain ⟨sm, sz⟩ := codeB_less N' T' (by omega) p3 (by omega) t2
                            obtain ⟨r, e, cA, cR⟩ := both_c b (codeB N' T') (by have := HZ.out; omega) sz
                            have HSM := Lib.hid sm
                            have HCA := Lib.hid cA
                            have HCR := Lib.hid cR
                            have HP2 := Lib.hid (show N'.length = m ∧ Ok64 N' ∧ m ≤ k from ⟨p2, p3, p4⟩)
                            have HP5 := Lib.hid p5
                            have HTT := Lib.hid (show T'.length = n' ∧ n' ≤ 6 ∧ (∀ t ∈ T', t.size ≤ 20) from ⟨hn'.symm, by omega, t2⟩)
                            have HT3 := Lib.hid t3
                            have HN3 := Lib.hid n3
                            have HNN := Lib.hid (show Nn.length = m ∧ Ok64 Nn from ⟨n1, n2⟩)
                            have HBq := Lib.hid hB
                            have HGq := Lib.hid hG
                            have HJ := Lib.hid (show iN < 2 ∧ iN + 1 + k4 = 3 from ⟨hlt, by omega⟩)
                            have hwx := Lib.hid (show wrap64 (i + 1) = ((iN + 1 : Nat) : Int) by unfold wrap64; omega)
                            clear p2 p3 p4 p5 t1 t2 t3 n1 n2 n3 hB hG hik hi2 hlt hn' sm sz cA cR hm8 hi
                            go_wp2_with (go_at_call 18; with_reducible refine (code_n N' T' m n' HP2.out.1 HTT.out.1 HSM.out A k A6' k6' _ (HP5.out _ HBq.out HN3.out) HP2.out.2.2 (by have := (Kd.R_reads' HT3.out).2.2; rwa [HTT.out.1] at this) (Kd.R_reads' HT3.out).2.1).mono ?_; rintro x5 w5 ⟨rfl, hb5⟩; have HB5 := Lib.hid (HBq.out.trans (hb5.mono HBq.out.size)); have HG5 := Lib.hid ((hb5.block _ (blk_lt HGq.out)).trans HGq.out); have HT5 := Lib.hid (Kd.R_below HT3.out hb5); have HN5 := Lib.hid (Kd.R_below HN3.out hb5); clear hb5)
                            go_loopg [6] 8 (fun kq v6 w' => ∃ T2 : List ByteArray, 8 ≤ T2.length + kq ∧ T2.length ≤ 6 ∧ (∀ t ∈ T2, t.size ≤ 20) ∧ Below Wb.heap.size Wb w' ∧ w'.heap[Gb]? = some (.cells #[.slice A0 m c0, .slice A9 m k9] 22 (0, 0)) ∧ Kd.string.R 9 w' Wb.heap.size (fun _ => True) v6 T2 ∧ (Kd.int .i64).R 3 w' Wb.heap.size (fun _ => True) (.slice A9 m k9) Nn)
                            case atStart => exact ⟨T', by omega, by have := HTT.out; omega, HTT.out.2.2, HB5.out, HG5.out, HT5.out, HN5.out⟩
                            case round =>
                              clear HG5 HT5 HN5 HB5 HT3 HN3 HBq HGq p1
                              obtain ⟨T2, hk, t1, t2, hB, hG, t3, n3⟩ := hrel
                              obtain ⟨A7, k7, rfl⟩ := Kd.R_slice t3
                              obtain ⟨n2, hn2⟩ : ∃ n, n = T2.length := ⟨_, rfl⟩
                              cases gk with
                              | zero => omega
                              | succ k5 =>
                                by_cases hlt : n2 < H
                                · have d2 : decide ((n2 : Int) < (m : Int) / 2 + 1) = true := decide_eq_true (by have := HH8.out; omega)
                                  rw [← hn2] at t3
                                  rw [← hn2]
                                  have HT3 := Lib.hid t3
                                  have HN3 := Lib.hid n3
                                  have HBq := Lib.hid hB
                                  have HGq := Lib.hid hG
                                  have HTJ := Lib.hid (show T2.length = n2 ∧ n2 ≤ 4 ∧ (∀ t ∈ T2, t.size ≤ 20) ∧ 8 ≤ n2 + 1 + k5 from ⟨hn2.symm, by have := HH8.out; omega, t2, by omega⟩)
                                  clear hlt hn2 t3 n3 hB hG hk t1 t2
                                  go_wp2_with ((with_reducible refine gate_builtin (b := .append) (xs := #[.tmp 106, .tmp 107]) rfl ?_); at_builtin; go_loud (refine Kd.R_append Kd.string (w0 := Wb) (W := wr) Wb.heap.size rfl (.tmp 106) (.tmp 107) 32 9 (.string ⟨#[]⟩) 16 rfl Try.underlying32 info9 rfl (by decide) (by omega) (.slice A7 n2 k7) T2 ⟨#[]⟩ [.string ⟨#[]⟩] (fun _ => True) (fun _ => False) rfl rfl rfl (fun _ hk => hk.elim) (fun _ _ => trivial) HT3.out HBq.out HBq.out.size (by have := HTJ.out; omega) ?_; intro v9 w9 ho9 hb9 hg9 hat9; have HN9 := Lib.hid (Kd.R_over' HN3.out (Kd.R_typed HT3.out) (by decide) hg9); have HG9 := Lib.hid ((hg9.block _ (blk_lt HGq.out) (fun e => by obtain ⟨cc, hcc⟩ := Kd.R_typed HT3.out Gb e.symm; have hq := HGq.out; rw [hcc] at hq; injection hq with hq; injection hq with _ hq; exact absurd hq (by decide))).trans HGq.out); have HO9 := Lib.hid ho9; have HB9 := Lib.hid hb9; clear ho9 hb9 hg9 hat9))
                                  go_roundg k5
                                  case measure => have := HTJ.out; omega
                                  case rel => exact ⟨T2 ++ [⟨#[]⟩], by rw [List.length_append]; have := HTJ.out; show 8 ≤ T2.length + 1 + k5; omega, by rw [List.length_append]; have := HTJ.out; show T2.length + 1 ≤ 6; omega, fun t ht => by
                                    rcases List.mem_append.1 ht with h | h
                                    · exact HTJ.out.2.2.1 t h
                                    · rw [List.mem_singleton.1 h]; decide, HB9.out, HG9.out, HO9.out, HN9.out⟩
                                · have d2 : decide ((n2 : Int) < (m : Int) / 2 + 1) = false := decide_eq_false (by have := HH8.out; omega)
                                  have hm8 := HLM.out.2.1
                                  obtain ⟨sm, sz⟩ := codeB_less N' T2 (by have := HP2.out.1; omega) HP2.out.2.1 (by omega) t2
                                  obtain ⟨r2, e2, cA2, cR2⟩ := both_c b (codeB N' T2) (by have := HZ.out; omega) sz
                                  rw [← hn2] at t3
                                  rw [← hn2]
                                  have HT3 := Lib.hid t3
                                  have HN3 := Lib.hid n3
                                  have HBq := Lib.hid hB
                                  have HGq := Lib.hid hG
                                  have HS2 := Lib.hid sm
                                  have HA2 := Lib.hid cA2
                                  have HR2 := Lib.hid cR2
                                  have HTJ := Lib.hid (show T2.length = n2 ∧ n2 ≤ 6 ∧ (∀ t ∈ T2, t.size ≤ 20) from ⟨hn2.symm, by omega, t2⟩)
                                  have y1 : (r.toList != r.toList) = false := bne_eq_false_iff_eq.2 rfl
                                  have y2 : (e != e) = false := bne_eq_false_iff_eq.2 rfl
                                  have y3 : (r2.toList != r2.toList) = false := bne_eq_false_iff_eq.2 rfl
                                  have y4 : (e2 != e2) = false := bne_eq_false_iff_eq.2 rfl
                                  have x0 := Lib.hid (Below.refl wr.heap.size wr)
                                  clear hlt hn2 t3 n3 hB hG hk t1 t2 hm8 sm sz cA2 cR2
                                  go_wp2_with (first
                                    | (go_at_call 16; first
                                      | (with_reducible refine (HCA.out _).mono ?_; rintro y5 w6 ⟨rfl, hb6⟩; have X6 := Lib.hid hb6; clear hb6)
                                      | (with_reducible refine (HA2.out _).mono ?_; rintro y7 w9 ⟨rfl, hb9⟩; have X9 := Lib.hid (X8.out.trans (hb9.mono X8.out.size)); clear hb9))
                                    | (go_at_call 17; first
                                      | (with_reducible refine (HCR.out _).mono ?_; rintro y6 w7 ⟨rfl, hb7⟩; have X7 := Lib.hid (X6.out.trans (hb7.mono X6.out.size)); clear hb7)
                                      | (with_reducible refine (HR2.out _).mono ?_; rintro y9 w11 ⟨rfl, hb11⟩; have X11 := Lib.hid (X10.out.trans (hb11.mono X10.out.size)); clear hb11))
                                    | (go_at_call 18; first
                                      | (with_reducible refine (code_n N' T2 m n2 HP2.out.1 HTJ.out.1 HS2.out A k A7 k7 w7 (HP5.out w7 (HBq.out.trans (X7.out.mono HBq.out.size)) (Kd.R_below HN3.out X7.out)) HP2.out.2.2 (by have := (Kd.R_reads' (Kd.R_below HT3.out X7.out)).2.2; rwa [HTJ.out.1] at this) (Kd.R_reads' HT3.out).2.1).mono ?_; rintro y10 w8 ⟨rfl, hb8⟩; have X8 := Lib.hid (X7.out.trans (hb8.mono X7.out.size)); clear hb8)
                                      | (with_reducible refine (code_n N' T2 m n2 HP2.out.1 HTJ.out.1 HS2.out A k A7 k7 w9 (HP5.out w9 (HBq.out.trans (X9.out.mono HBq.out.size)) (Kd.R_below HN3.out X9.out)) HP2.out.2.2 (by have := (Kd.R_reads' (Kd.R_below HT3.out X9.out)).2.2; rwa [HTJ.out.1] at this) (Kd.R_reads' HT3.out).2.1).mono ?_; rintro y11 w10 ⟨rfl, hb10⟩; have X10 := Lib.hid (X9.out.trans (hb10.mono X9.out.size)); clear hb10)))
                                  go_roundg k4
                                  case measure => have := HJ.out; omega
                                  case rel => exact ⟨_, iN + 1, rfl, hwx.out, by have := HJ.out; omega, by have := HJ.out; omega, HBq.out.trans (X11.out.mono HBq.out.size), (X11.out.block _ (blk_lt HGq.out)).trans HGq.out, ⟨T2, by have := HTJ.out; omega, HTJ.out.2.2, Kd.R_below HT3.out X11.out⟩, Nn, HNN.out.1, HNN.out.2, Kd.R_below HN3.out X11.out⟩
                          · have d1 : decide (i < 2) = false := decide_eq_false (by omega)
                            have HBq := Lib.hid hB
                            clear hB hG hik hi2 hlt t1 t2 t3 n1 n2 n3 hi
                            go_wp2
                            go_ret
                            exact ⟨rfl, HBB.out.trans (HBq.out.mono HBB.out.size)⟩
        )
theorem diffCopies_calls (w : World) (a0 : ByteArray) (z0 : a0.size ≤ 9223372036854775807) (A0 : Option Addr) (c0 : Nat) (n0 : List Int) (hC0 : Kd.C (Kd.int .i64) w A0 n0.length n0) (hc0 : n0.length ≤ c0) (hl0 : n0.length ≤ 9223372036854775807) (hw0 : ∀ n ∈ n0, (Lit.int .i64 n).wf = true)
    (A1 : Option Addr) (c1 : Nat) (l1 : List ByteArray) (hC1 : Kd.C Kd.string w A1 l1.length l1) (hc1 : l1.length ≤ c1) (hl1 : l1.length ≤ 9223372036854775807) (hs1 : ∀ s ∈ l1, s.size ≤ 9223372036854775807) :
    Calls Try.prog 5 #[.string a0, .agg #[.slice A0 n0.length c0, .slice A1 l1.length c1]] w fun e w' => e = .returned (.bool true) ∧ Below w.heap.size w w' :=
  diffCopies_walk w a0 A0 c0 n0 hC0 hc0 hl0 (fun n hn => i64_range (hw0 n hn)) A1 c1 l1 hC1 hc1 hl1
end Go.Proofs.Ytjjpiedcdcdejaa.Pure
