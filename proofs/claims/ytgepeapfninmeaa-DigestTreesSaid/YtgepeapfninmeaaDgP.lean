/- digest.Proof. -/
import Derived.Test.YtgepeapfninmeaaDgR
import Derived.Test.YtgepeapfninmeaaRngB
set_option linter.unusedVariables false
set_option linter.unusedSimpArgs false
namespace Go.Proofs.Ytgepeapfninmeaa.Dg
open Go.RowKit Go.Proofs.YtgepeapfninmeaaW.PrintWords Go.Proofs.Ytgepeapfninmeaa.Rng
attribute [local go_sem] Oper.semAt_some
/-- The neighbour of element m of a level. -/
def nb (m : Nat) : Nat := m ^^^ 1
def pick (i : Nat) (x : Lv) : ByteArray := x.r.getD (nb (i / 2 ^ x.k)) ⟨#[]⟩
def col (i : Nat) (xs : List Lv) : List ByteArray := (xs.filter fun x => decide (1 < x.r.length)).map (pick i)
/-- What digest.Proof returns of element i. -/
def ProofL (l : List ByteArray) (h i : Nat) : List ByteArray := (List.range h).map fun k => (lev (fill l (2 ^ h)) k).getD (nb (i / 2 ^ k)) ⟨#[]⟩
set_option maxHeartbeats 400000 in
theorem Proof_no (A : Option Addr) (c : Nat) (l : List ByteArray) (i : Int) (w : World) (_hl : l.length ≤ 9223372036854775807) (h : i < 0 ∨ (l.length : Int) ≤ i) :
    Calls Try.prog 19 #[.slice A l.length c, .int .i64 i] w fun e w' => e = .returned (.slice none 0 0) ∧ Below w.heap.size w w' := by
  by_cases h3 : i < 0
  · have b3 : decide (i < 0) = true := by simp; omega
    go_enter Try.func19, Try.ntmps19
    go_wp2
    go_ret
    exact ⟨rfl, (Below.refl _ _).alloc (Nat.le_refl _) _⟩
  · have b3 : decide (i < 0) = false := by simp; omega
    have b4 : decide ((l.length : Int) ≤ i) = true := by simp; omega
    clear h
    go_enter Try.func19, Try.ntmps19
    go_wp2
    go_ret
    exact ⟨rfl, (Below.refl _ _).alloc (Nat.le_refl _) _⟩
theorem xor1 (i k : Nat) (h : i ≤ 9223372036854775807) : bits .xor .i64 ((i : Int) / 2 ^ k) 1 = ((nb (i / 2 ^ k) : Nat) : Int) := by
  have e : ((i : Int) / 2 ^ k) = ((i / 2 ^ k : Nat) : Int) := by simp
  have hle : i / 2 ^ k ≤ i := Nat.div_le_self _ _
  rw [e]
  have hx : (i / 2 ^ k) ^^^ 1 < 2 ^ 63 := Nat.xor_lt_two_pow (by omega) (by decide)
  have e1 : (i / 2 ^ k) % 18446744073709551616 = i / 2 ^ k := Nat.mod_eq_of_lt (by omega)
  have e2 : IntKind.i64.wrap (((i / 2 ^ k) ^^^ 1 : Nat) : Int) = (((i / 2 ^ k) ^^^ 1 : Nat) : Int) := by rw [IntKind.wrap_i64]; omega
  generalize i / 2 ^ k = m at *
  simp [bits, nb]
  rw [show m % 2 ^ IntKind.i64.bits = m from e1, show 1 % 2 ^ IntKind.i64.bits = 1 from rfl]
  exact e2
theorem nb_lt {i k h n : Nat} (hn : n = 2 ^ (h - k)) (h1 : 1 < n) (hi : i < 2 ^ h) (hk : k ≤ h) : nb (i / 2 ^ k) < n := by
  subst hn
  have hne : 1 ≤ h - k := by
    rcases Nat.lt_or_ge (h - k) 1 with h' | h'
    · have : h - k = 0 := by omega
      rw [this] at h1
      omega
    · exact h'
  refine Nat.xor_lt_two_pow ?_ ?_
  · rw [Nat.div_lt_iff_lt_mul (Nat.pow_pos (by omega)), ← Nat.pow_add]
    rwa [show h - k + k = h by omega]
  · exact Nat.lt_of_lt_of_le (by decide : 1 < 2 ^ 1) (Nat.pow_le_pow_right (by omega) hne)
theorem col_map (i : Nat) (xs : List Lv) : col i xs = (((xs.map fun x => (x.k, x.r)).filter fun p => decide (1 < p.2.length)).map fun p => p.2.getD (nb (i / 2 ^ p.1)) ⟨#[]⟩) := by
  induction xs with
  | nil => rfl
  | cons x xs ih =>
    unfold col at ih ⊢
    rw [List.map_cons]
    by_cases h : 1 < x.r.length
    · rw [List.filter_cons_of_pos (by simpa using h), List.filter_cons_of_pos (by simpa using h), List.map_cons, List.map_cons, ih]
      rfl
    · rw [List.filter_cons_of_neg (by simpa using h), List.filter_cons_of_neg (by simpa using h), ih]
theorem col_all (l : List ByteArray) (i : Nat) (xs : List Lv) (hS : LvS l xs) : ∃ h : Nat, Up l.length (2 ^ h) ∧ col i xs = ProofL l h i := by
  obtain ⟨h, hup, hm⟩ := hS
  refine ⟨h, hup, ?_⟩
  rw [col_map, hm, List.range_succ, List.map_append, List.filter_append, List.map_append]
  have e1 : (List.map (fun k => (k, lev (fill l (2 ^ h)) k)) [h]).filter (fun p => decide (1 < p.2.length)) = [] := by
    simp [lev_len l h hup.2.1 h (Nat.le_refl _)]
  have e2 : (List.map (fun k => (k, lev (fill l (2 ^ h)) k)) (List.range h)).filter (fun p => decide (1 < p.2.length)) = List.map (fun k => (k, lev (fill l (2 ^ h)) k)) (List.range h) := by
    rw [List.filter_eq_self]
    intro p hp
    simp only [List.mem_map, List.mem_range] at hp
    obtain ⟨k, hk, rfl⟩ := hp
    simp only [lev_len l h hup.2.1 k (by omega), decide_eq_true_eq]
    exact Nat.one_lt_two_pow (by omega)
  rw [e1, e2]
  simp [ProofL]
theorem col_snoc (i : Nat) (pre : List Lv) (x : Lv) (s : ByteArray) (h : 1 < x.r.length) (hs : x.r[nb (i / 2 ^ x.k)]? = some s) : col i (pre ++ [x]) = col i pre ++ [s] := by
  simp [col, h, pick, List.getD_eq_getElem?_getD, hs]
def own3 (b : Nat) (v : Value) (k : Nat) : Prop := k = b ∨ k = b + 1 ∨ some k = v.ownBlock
def PI (base i : Nat) (w : World) (pre : List Lv) (O : Nat → Prop) (W : World) : Prop :=
  ∃ v, O = own3 base v ∧ W.heap[base]? = some (.cells #[.int .i64 i] 3 (0, 0)) ∧ W.heap[base + 1]? = some (.cells #[v] 26 (0, 0)) ∧
    W.ownsRow (base + 2) 9 1 v (col i pre).length ((col i pre).map Value.string) ∧ Below base w W
theorem app_after {W w1 : World} {B : Nat} {v : Value} {n : Nat} {xs : List Value} {i : Int} {s : ByteArray} (h3 : W.ownsRow (B + 2) 9 1 v n xs)
    (h1 : W.heap[B]? = some (.cells #[.int .i64 i] 3 (0, 0))) (h2 : W.heap[B + 1]? = some (.cells #[v] 26 (0, 0))) (hg : (W.alloc (.cells #[.string s] 9)).drew.grownBy w1 v.ownBlock) :
    w1.heap[B]? = some (.cells #[.int .i64 i] 3 (0, 0)) ∧ w1.heap[B + 1]? = some (.cells #[v] 26 (0, 0)) := by
  have key : ∀ k o, k < B + 2 → W.heap[k]? = some o → w1.heap[k]? = some o := by
    intro k o hk ho
    have hlt := lt_of_block ho
    have hz : (W.alloc (.cells #[.string s] 9)).drew.heap.size = W.heap.size + 1 := by simp
    refine (hg.block k (by omega) (fun e => ?_)).trans ((Below.heap_alloc W _ k hlt).trans ho)
    have := own_base h3 k e.symm
    omega
  exact ⟨key _ _ (by omega) h1, key _ _ (by omega) h2⟩
theorem PI_step {W w w1 : World} {B i : Nat} {pre : List Lv} {x : Lv} {s : ByteArray} {v : Value} {g cap : Nat} (h3 : W.ownsRow (B + 2) 9 1 v (col i pre).length ((col i pre).map Value.string)) (h4 : Below B w W)
    (hO : ∀ k, own3 B v k → B ≤ k ∧ k < W.heap.size)
    (ho1 : w1.ownsRow (B + 2) 9 1 (.slice (some ⟨g, 0, none⟩) ((col i pre).length + 1) cap) ((col i pre).length + 1) ((col i pre).map Value.string ++ [.string s]))
    (hg : (W.alloc (.cells #[.string s] 9)).drew.grownBy w1 v.ownBlock) (hat : v.ownBlock = some g ∨ g = (W.alloc (.cells #[.string s] 9)).drew.heap.size) (hlt : g < w1.heap.size)
    (hcol : col i (pre ++ [x]) = col i pre ++ [s]) (n1 : w1.heap[B]? = some (.cells #[.int .i64 i] 3 (0, 0))) (n2 : w1.heap[B + 1]? = some (.cells #[v] 26 (0, 0))) :
    ∃ O', PI B i w (pre ++ [x]) O' (w1.setCell ⟨B + 1, 0, none⟩ (.slice (some ⟨g, 0, none⟩) ((col i pre).length + 1) cap)) ∧ (∀ k, O' k → own3 B v k ∨ W.heap.size ≤ k) ∧
      (∀ k, O' k → k < (w1.setCell ⟨B + 1, 0, none⟩ (.slice (some ⟨g, 0, none⟩) ((col i pre).length + 1) cap)).heap.size) ∧ Step (own3 B v) W (w1.setCell ⟨B + 1, 0, none⟩ (.slice (some ⟨g, 0, none⟩) ((col i pre).length + 1) cap)) := by
  have hgB : B + 2 ≤ g := own_base ho1 g (by simp [Value.ownBlock])
  have hst : Step (own3 B v) W (w1.setCell ⟨B + 1, 0, none⟩ (.slice (some ⟨g, 0, none⟩) ((col i pre).length + 1) cap)) :=
    (Step.grown (((Step.refl (own3 B v) W).alloc (.cells #[.string s] 9)).drew) hg (fun k e => .inl (.inr (.inr e.symm)))).setCell (p := ⟨B + 1, 0, none⟩) (.inl (.inr (.inl rfl))) _
  have hz : (w1.setCell ⟨B + 1, 0, none⟩ (.slice (some ⟨g, 0, none⟩) ((col i pre).length + 1) cap)).heap.size = w1.heap.size := by simp [World.setCell]
  have hBW := (hO (B + 1) (.inr (.inl rfl))).2
  have hs1 := hst.size
  refine ⟨own3 B (.slice (some ⟨g, 0, none⟩) ((col i pre).length + 1) cap), ⟨_, rfl, other_cell n1 (p := ⟨B + 1, 0, none⟩) (by simp) _, one_setCell n2, ?_, ?_⟩, ?_, ?_, hst⟩
  · rw [hcol, List.length_append, List.length_singleton, List.map_append]
    exact own_move ho1 (fun k hk => Below.heap_setCell w1 ⟨B + 1, 0, none⟩ _ k (by
      have : g = k := by simpa [Value.ownBlock] using hk
      show k ≠ B + 1
      omega))
  · exact h4.trans (hst.below (fun k hk => (hO k hk).1) (by omega))
  · rintro k (rfl | rfl | hk)
    · exact .inl (.inl rfl)
    · exact .inl (.inr (.inl rfl))
    · have : k = g := by simpa [Value.ownBlock] using hk
      subst this
      rcases hat with h | h
      · exact .inl (.inr (.inr h.symm))
      · right
        rw [h]
        simp
  · intro k hk
    rw [hz] at hs1 ⊢
    rcases hk with rfl | rfl | hk
    · omega
    · omega
    · have : k = g := by simpa [Value.ownBlock] using hk
      omega
set_option maxHeartbeats 1000000 in
theorem Proof_yes (A : Option Addr) (c : Nat) (l : List ByteArray) (i : Nat) (w : World) (hl : l.length ≤ 1099511627776) (hil : i < l.length) (hs : ∀ s ∈ l, s.size ≤ 9223372036854775807) (hr : Kd.C Kd.string w A l.length l) :
    Calls Try.prog 19 #[.slice A l.length c, .int .i64 i] w fun e w' => ∃ (h : Nat) (v : Value), Up l.length (2 ^ h) ∧ e = .returned v ∧ Kd.R Kd.string 9 w' w.heap.size (fun _ => True) v (ProofL l h i) ∧ Below w.heap.size w w' := by
  refine (callsIn_wide (n := 3)).1 ?_
  have b3 : decide ((i : Int) < 0) = false := by simp
  have b4 : decide ((l.length : Int) ≤ (i : Int)) = false := by simp; omega
  have b5 : decide (l.length ≤ i) = false := by simp; omega
  refine callsIn_of_wp_marks Try.func19 rfl trivial ?_ rfl
  simp only [Try.ntmps19, List.size_toArray, List.length_cons, List.length_nil, Nat.reduceAdd, Nat.reduceSub, Array.replicate_succ, Array.replicate_zero, List.push_toArray, List.append_toArray, List.nil_append, List.cons_append]
  gi_wp2_with (refine ⟨trivial, ?_⟩; gi_at_call 29; refine (callsIn_wide.2 (levels_any _ _ _ _)).mono ?_; rintro e w1 ⟨rfl, rfl⟩)
  clear b3 b4 b5
  obtain ⟨W0, hW0⟩ : ∃ W0, ((w.alloc (.cells #[.int .i64 i] 3)).alloc (.cells #[.slice none 0 0] 26)).alloc (.cells #[.slice A l.length c] 26) = W0 := ⟨_, rfl⟩
  obtain ⟨b0, b1, b2⟩ := three_new w (.cells #[.int .i64 i] 3) (.cells #[.slice none 0 0] 26) (.cells #[.slice A l.length c] 26)
  rw [hW0] at b0 b1 b2
  have bz : W0.heap.size = w.heap.size + 1 + 1 + 1 := by rw [← hW0]; simp
  have bB : Below w.heap.size w W0 := by rw [← hW0]; exact (((Below.refl _ _).alloc (Nat.le_refl _) _).alloc (by simp) _).alloc (by simp; omega) _
  rw [hW0]
  obtain ⟨B, hB⟩ : ∃ B, B = w.heap.size := ⟨_, rfl⟩
  rw [← hB] at b0 b1 b2 bz bB ⊢
  have HB := Lib.hid hB
  clear hB
  refine wpIn_range (encs := Lv.encs) (X := Lv.X l) (S := LvS l) (Sp := fun _ => True) (base := B) (T0 := fun k => k = B + 1 + 1) rfl (fun h => absurd h (by simp [Fence.wide])) (gf := 34) (lb := #[.pointer (some ⟨B + 1 + 1, 0, none⟩)]) rfl trivial (enters_of Try.func34 (by kernel_rfl) rfl)
    ?hseq (fun _ => rfl) ?hX (PI B i w) (fun _ _ _ _ => False) ?hI (fun _ _ _ _ _ h _ => h) (by omega) ?hT0 (own3 B (.slice none 0 0)) ?hO ?h0
    (fun x => { tmps := #[.slice A l.length c, .int .i64 i, undef, .pointer (some ⟨B, 0, none⟩), .slice none 0 0, .pointer (some ⟨B + 1, 0, none⟩), .int .i64 x.k, .slice (some ⟨x.g, 0, none⟩) x.r.length x.r.length, .int .i64 i, .bool false, .bool false, .int .i64 i, .slice A l.length c, .int .i64 l.length, .bool false, .bool false, .slice A l.length c, .func (.func 34) #[] #[.pointer (some ⟨B + 1 + 1, 0, none⟩)], .int .i64 x.k, .slice (some ⟨x.g, 0, none⟩) x.r.length x.r.length, undef, undef, undef, undef, undef, undef, undef, undef, undef, undef, undef, undef, undef, undef], defers := [] })
    ?assign ?body ?done ?stop
  case hseq => exact (levels_iter _ B (B + 1 + 1) A c l W0 hl hs b2 (Kd.C_below hr (by rw [← HB.out]; exact bB))).wider
  case hX =>
    rintro pre x W L o o' ⟨h0, h1, h2⟩ hl ho
    refine ⟨h0, (World.putObj_heap_other ?_).trans h1, h2⟩
    rintro rfl
    rw [h1] at hl
    cases hl
    simp [Obj.isCells] at ho
  case hI =>
    rintro pre O W W' ⟨v, rfl, h1, h2, h3, h4⟩ hst
    refine ⟨v, rfl, hst.same h1 (fun h => h.2 (.inl rfl)), hst.same h2 (fun h => h.2 (.inr (.inl rfl))), ?_, h4.trans (hst.below (fun k h => h.1) (Nat.le_trans (Nat.le_of_eq HB.out) h4.size))⟩
    exact own_move h3 (fun k hk => hst.1.2 k (own_lt h3 k hk) (fun h => h.2 (.inr (.inr hk.symm))))
  case hT0 => rintro k rfl; omega
  case hO =>
    rintro k (rfl | rfl | h)
    · exact ⟨Nat.le_refl _, by omega, by omega⟩
    · exact ⟨by omega, by omega, by omega⟩
    · simp [Value.ownBlock] at h
  case h0 => exact ⟨_, rfl, b0, b1, own_nil _ _ _ _, bB⟩
  case assign =>
    intro L x W K hK
    simp only [Lv.encs]
    gi_wp2
    exact hK
  case body =>
    rintro L pre x O W ⟨v, rfl, h1, h2, h3, h4⟩ ⟨hxk, hx, hxs, h, hup, hkh, hxr⟩ hO hsz
    by_cases h01 : 1 < x.r.length
    · have t1 : decide (1 < x.r.length) = true := by simpa using h01
      have t2 : decide ((1 : Int) < (x.r.length : Int)) = true := by simp; omega
      have hxl : x.r.length = 2 ^ (h - x.k) := by rw [hxr]; exact lev_len l h hup.2.1 x.k hkh
      have hmx : nb (i / 2 ^ x.k) < x.r.length := nb_lt hxl h01 (Nat.lt_of_lt_of_le hil hup.2.1) hkh
      obtain ⟨s, hs0⟩ : ∃ s, x.r[nb (i / 2 ^ x.k)]? = some s := ⟨_, List.getElem?_eq_getElem hmx⟩
      have hcol := col_snoc i pre x s h01 hs0
      have c1 : W.cell? ⟨B, 0, none⟩ = some (.int .i64 i) := cell_of_one h1
      have c2 : W.cell? ⟨B + 1, 0, none⟩ = some v := cell_of_one h2
      have f2 : W.frozen? ⟨B + 1, 0, none⟩ = false := free_of_one h2
      have c3 : W.cell? ⟨x.g, nb (i / 2 ^ x.k), none⟩ = some (.string s) := by simp [World.cell?, hx, strs, hs0]
      have hxor : bits .xor .i64 ((i : Int) / 2 ^ x.k) 1 = ((nb (i / 2 ^ x.k) : Nat) : Int) := xor1 _ _ (by omega)
      have hh41 : h < 42 := by
        have h1 : h < 2 ^ h := Nat.lt_two_pow_self
        have h2 : 2 ^ h ≤ 2 * 1099511627776 := by rcases hup.2.2 with e | e <;> omega
        rcases Nat.lt_or_ge h 42 with h' | h'
        · exact h'
        · have := Nat.pow_le_pow_right (n := 2) (by omega) h'
          omega
      have hmin : min x.k 64 = x.k := by omega
      have hix : 0 ≤ ((nb (i / 2 ^ x.k) : Nat) : Int) ∧ ((nb (i / 2 ^ x.k) : Nat) : Int) < (x.r.length : Int) := by omega
      generalize nb (i / 2 ^ x.k) = m at *
      have hBW : B + 1 < W.heap.size := lt_of_block h2
      have hcl : (col i pre).length ≤ 42 := by
        have : (col i pre).length ≤ pre.length := by simp only [col, List.length_map]; exact List.length_filter_le _ _
        omega
      have hb1 : (col i pre).length + 1 ≤ maxLen := by unfold maxLen; omega
      have hb2 : ((col i pre).length + 1) * 16 ≤ 140737488355328 := by omega
      have hinfo : (Try.prog.info? 9).map (fun i => (i.zero, i.size, i.bytes)) = some (some (.string ⟨#[]⟩), 1, 16) := by kernel_rfl
      have HXK := Lib.hid hxk
      clear hxk
      have HCOL := Lib.hid hcol
      have H1 := Lib.hid h1
      have H2 := Lib.hid h2
      have HX := Lib.hid hx
      clear hcol h1 h2 hx hxl hxr hs0
      gi_wp2_with fail
      refine region_round (by kernel_rfl) (by kernel_rfl) ?_
      refine wpAnyIn_take (i := 1) (v := ?_) rfl rfl (by kernel_rfl) (by kernel_rfl) (by kernel_rfl) (fun _ _ _ h => h) ⟨Or.inl ⟨by rfl, ?_⟩, fun _ => rfl⟩ ?_
      rotate_left
      · intro w; go_simp; try with_reducible rfl
      refine wpAnyIn_take (i := 3) (v := ?_) rfl rfl (by kernel_rfl) (by kernel_rfl) (by kernel_rfl) (fun _ _ _ h => h) ⟨Or.inl ⟨by rfl, ?_⟩, fun _ => rfl⟩ ?_
      rotate_left
      · intro w; go_simp; try with_reducible rfl
      refine wpAnyIn_ready (rs := [0, 2]) (by kernel_rfl) (by simp) ?_
      refine AllReadyIn.cons rfl (fun K hK => ?_) ?_
      · go_simp
        refine hK _ _ ?_
        clear hK K
        refine wpAnyIn_ready (rs := [2]) (by kernel_rfl) (by simp) ?_
        refine AllReadyIn.cons rfl (fun K hK => ?_) ?_
        · go_simp
          refine hK _ _ ?_
          clear hK K
          refine wpAnyIn_take (i := 4) (v := ?_) rfl rfl (by kernel_rfl) (by kernel_rfl) (by kernel_rfl) (fun _ _ _ h => h) ⟨Or.inl ⟨by rfl, ?_⟩, fun _ => rfl⟩ ?_
          rotate_left
          · intro w; go_simp; try with_reducible rfl
          refine wpAnyIn_take (i := 5) (v := ?_) rfl rfl (by kernel_rfl) (by kernel_rfl) (by kernel_rfl) (fun _ _ _ h => h) ⟨Or.inl ⟨by rfl, ?_⟩, fun _ => rfl⟩ ?_
          rotate_left
          · intro w; go_simp; try with_reducible rfl
          refine wpAnyIn_take (i := 6) (v := ?_) rfl rfl (by kernel_rfl) (by kernel_rfl) (by kernel_rfl) (fun _ _ _ h => h) ⟨Or.inl ⟨by rfl, ?_⟩, fun _ => rfl⟩ ?_
          rotate_left
          · intro w; go_simp; try with_reducible rfl
          refine wpAnyIn_ready (rs := [7]) (by kernel_rfl) (by simp) ?_
          refine AllReadyIn.cons rfl (fun K hK => ?_) ?_
          · go_simp
            refine hK _ _ ?_
            clear hK K
            refine wpAnyIn_ready (rs := [8]) (by kernel_rfl) (by simp) ?_
            refine AllReadyIn.cons rfl (fun K hK => ?_) ?_
            · go_simp
              refine hK _ _ ?_
              clear hK K
              refine wpAnyIn_ready (rs := [9]) (by kernel_rfl) (by simp) ?_
              refine AllReadyIn.cons rfl (fun K hK => ?_) ?_
              · refine stepIn_append rfl (.tmp 23) (.tmp 31) 26 rfl (B + 2) 9 (.string ⟨#[]⟩) 16 Try.underlying26 hinfo rfl v _ _ rfl (by exact h3.alloc _) W.heap.size (.string s) rfl (by exact heap_alloc_new W _) rfl hb1 hb2 (by simp; omega) ?_
                intro g cap w1 ho1 hg1 hat hlt1
                have hA1 := app_after h3 H1.out H2.out hg1 (s := s)
                obtain ⟨n1, n2⟩ := hA1
                have d2 : w1.cell? ⟨B + 1, 0, none⟩ = some v := cell_of_one n2
                have e2 : w1.frozen? ⟨B + 1, 0, none⟩ = false := free_of_one n2
                have N1 := Lib.hid n1
                have N2 := Lib.hid n2
                clear n1 n2
                refine hK _ _ ?_
                clear hK K
                refine wpAnyIn_ready (rs := [10]) (by kernel_rfl) (by simp) ?_
                refine AllReadyIn.cons rfl (fun K hK => ?_) ?_
                · go_simp
                  refine hK _ _ ?_
                  clear hK K
                  refine wpAnyIn_done (by kernel_rfl) ?_ _
                  gi_wp2
                  exact PI_step h3 h4 hO ho1 hg1 hat hlt1 HCOL.out N1.out N2.out
                exact AllReadyIn.nil
              exact AllReadyIn.nil
            exact AllReadyIn.nil
          exact AllReadyIn.nil
        exact AllReadyIn.nil
      refine AllReadyIn.cons rfl (fun K hK => ?_) ?_
      · go_simp
        refine hK _ _ ?_
        clear hK K
        refine wpAnyIn_take (i := 4) (v := ?_) rfl rfl (by kernel_rfl) (by kernel_rfl) (by kernel_rfl) (fun _ _ _ h => h) ⟨Or.inl ⟨by rfl, ?_⟩, fun _ => rfl⟩ ?_
        rotate_left
        · intro w; go_simp; try with_reducible rfl
        refine wpAnyIn_take (i := 5) (v := ?_) rfl rfl (by kernel_rfl) (by kernel_rfl) (by kernel_rfl) (fun _ _ _ h => h) ⟨Or.inl ⟨by rfl, ?_⟩, fun _ => rfl⟩ ?_
        rotate_left
        · intro w; go_simp; try with_reducible rfl
        refine wpAnyIn_take (i := 6) (v := ?_) rfl rfl (by kernel_rfl) (by kernel_rfl) (by kernel_rfl) (fun _ _ _ h => h) ⟨Or.inl ⟨by rfl, ?_⟩, fun _ => rfl⟩ ?_
        rotate_left
        · intro w; go_simp; try with_reducible rfl
        refine wpAnyIn_ready (rs := [0, 7]) (by kernel_rfl) (by simp) ?_
        refine AllReadyIn.cons rfl (fun K hK => ?_) ?_
        · go_simp
          refine hK _ _ ?_
          clear hK K
          refine wpAnyIn_ready (rs := [7]) (by kernel_rfl) (by simp) ?_
          refine AllReadyIn.cons rfl (fun K hK => ?_) ?_
          · go_simp
            refine hK _ _ ?_
            clear hK K
            refine wpAnyIn_ready (rs := [8]) (by kernel_rfl) (by simp) ?_
            refine AllReadyIn.cons rfl (fun K hK => ?_) ?_
            · go_simp
              refine hK _ _ ?_
              clear hK K
              refine wpAnyIn_ready (rs := [9]) (by kernel_rfl) (by simp) ?_
              refine AllReadyIn.cons rfl (fun K hK => ?_) ?_
              · refine stepIn_append rfl (.tmp 23) (.tmp 31) 26 rfl (B + 2) 9 (.string ⟨#[]⟩) 16 Try.underlying26 hinfo rfl v _ _ rfl (by exact h3.alloc _) W.heap.size (.string s) rfl (by exact heap_alloc_new W _) rfl hb1 hb2 (by simp; omega) ?_
                intro g cap w1 ho1 hg1 hat hlt1
                have hA1 := app_after h3 H1.out H2.out hg1 (s := s)
                obtain ⟨n1, n2⟩ := hA1
                have d2 : w1.cell? ⟨B + 1, 0, none⟩ = some v := cell_of_one n2
                have e2 : w1.frozen? ⟨B + 1, 0, none⟩ = false := free_of_one n2
                have N1 := Lib.hid n1
                have N2 := Lib.hid n2
                clear n1 n2
                refine hK _ _ ?_
                clear hK K
                refine wpAnyIn_ready (rs := [10]) (by kernel_rfl) (by simp) ?_
                refine AllReadyIn.cons rfl (fun K hK => ?_) ?_
                · go_simp
                  refine hK _ _ ?_
                  clear hK K
                  refine wpAnyIn_done (by kernel_rfl) ?_ _
                  gi_wp2
                  exact PI_step h3 h4 hO ho1 hg1 hat hlt1 HCOL.out N1.out N2.out
                exact AllReadyIn.nil
              exact AllReadyIn.nil
            exact AllReadyIn.nil
          exact AllReadyIn.nil
        refine AllReadyIn.cons rfl (fun K hK => ?_) ?_
        · go_simp
          refine hK _ _ ?_
          clear hK K
          refine wpAnyIn_ready (rs := [0, 8]) (by kernel_rfl) (by simp) ?_
          refine AllReadyIn.cons rfl (fun K hK => ?_) ?_
          · go_simp
            refine hK _ _ ?_
            clear hK K
            refine wpAnyIn_ready (rs := [8]) (by kernel_rfl) (by simp) ?_
            refine AllReadyIn.cons rfl (fun K hK => ?_) ?_
            · go_simp
              refine hK _ _ ?_
              clear hK K
              refine wpAnyIn_ready (rs := [9]) (by kernel_rfl) (by simp) ?_
              refine AllReadyIn.cons rfl (fun K hK => ?_) ?_
              · refine stepIn_append rfl (.tmp 23) (.tmp 31) 26 rfl (B + 2) 9 (.string ⟨#[]⟩) 16 Try.underlying26 hinfo rfl v _ _ rfl (by exact h3.alloc _) W.heap.size (.string s) rfl (by exact heap_alloc_new W _) rfl hb1 hb2 (by simp; omega) ?_
                intro g cap w1 ho1 hg1 hat hlt1
                have hA1 := app_after h3 H1.out H2.out hg1 (s := s)
                obtain ⟨n1, n2⟩ := hA1
                have d2 : w1.cell? ⟨B + 1, 0, none⟩ = some v := cell_of_one n2
                have e2 : w1.frozen? ⟨B + 1, 0, none⟩ = false := free_of_one n2
                have N1 := Lib.hid n1
                have N2 := Lib.hid n2
                clear n1 n2
                refine hK _ _ ?_
                clear hK K
                refine wpAnyIn_ready (rs := [10]) (by kernel_rfl) (by simp) ?_
                refine AllReadyIn.cons rfl (fun K hK => ?_) ?_
                · go_simp
                  refine hK _ _ ?_
                  clear hK K
                  refine wpAnyIn_done (by kernel_rfl) ?_ _
                  gi_wp2
                  exact PI_step h3 h4 hO ho1 hg1 hat hlt1 HCOL.out N1.out N2.out
                exact AllReadyIn.nil
              exact AllReadyIn.nil
            exact AllReadyIn.nil
          refine AllReadyIn.cons rfl (fun K hK => ?_) ?_
          · go_simp
            refine hK _ _ ?_
            clear hK K
            refine wpAnyIn_ready (rs := [0]) (by kernel_rfl) (by simp) ?_
            refine AllReadyIn.cons rfl (fun K hK => ?_) ?_
            · go_simp
              refine hK _ _ ?_
              clear hK K
              refine wpAnyIn_ready (rs := [9]) (by kernel_rfl) (by simp) ?_
              refine AllReadyIn.cons rfl (fun K hK => ?_) ?_
              · refine stepIn_append rfl (.tmp 23) (.tmp 31) 26 rfl (B + 2) 9 (.string ⟨#[]⟩) 16 Try.underlying26 hinfo rfl v _ _ rfl (by exact h3.alloc _) W.heap.size (.string s) rfl (by exact heap_alloc_new W _) rfl hb1 hb2 (by simp; omega) ?_
                intro g cap w1 ho1 hg1 hat hlt1
                have hA1 := app_after h3 H1.out H2.out hg1 (s := s)
                obtain ⟨n1, n2⟩ := hA1
                have d2 : w1.cell? ⟨B + 1, 0, none⟩ = some v := cell_of_one n2
                have e2 : w1.frozen? ⟨B + 1, 0, none⟩ = false := free_of_one n2
                have N1 := Lib.hid n1
                have N2 := Lib.hid n2
                clear n1 n2
                refine hK _ _ ?_
                clear hK K
                refine wpAnyIn_ready (rs := [10]) (by kernel_rfl) (by simp) ?_
                refine AllReadyIn.cons rfl (fun K hK => ?_) ?_
                · go_simp
                  refine hK _ _ ?_
                  clear hK K
                  refine wpAnyIn_done (by kernel_rfl) ?_ _
                  gi_wp2
                  exact PI_step h3 h4 hO ho1 hg1 hat hlt1 HCOL.out N1.out N2.out
                exact AllReadyIn.nil
              exact AllReadyIn.nil
            exact AllReadyIn.nil
          exact AllReadyIn.nil
        exact AllReadyIn.nil
      exact AllReadyIn.nil
    · have t1 : decide (1 < x.r.length) = false := by simpa using h01
      have t2 : decide ((1 : Int) < (x.r.length : Int)) = false := by simp; omega
      have e : col i (pre ++ [x]) = col i pre := by simp [col, h01]
      have E := Lib.hid e
      have HXK := Lib.hid hxk
      have HXR := Lib.hid hxr
      clear hxk hxr e
      gi_wp2
      exact ⟨own3 B v, ⟨v, rfl, h1, h2, by rw [E.out]; exact h3, h4⟩, fun k h => .inl h, fun k h => (hO k h).2, Step.refl _ _⟩
  case done =>
    rintro D xs O W hD hS ⟨v, rfl, h1, h2, h3, h4⟩ hOD hK
    obtain ⟨h, hup, hcol⟩ := col_all l i xs hS
    have c2 : W.cell? ⟨B + 1, 0, none⟩ = some v := cell_of_one h2
    have HS := Lib.hid hS
    have HC := Lib.hid hcol
    clear hS hcol
    gi_wp2
    have hBw : B ≤ w.heap.size := Nat.le_of_eq HB.out
    refine ⟨by simp, .inl ⟨_, _, rfl, run_takeDeferred hK, ?_⟩⟩
    have h3' : W.ownsRow w.heap.size 9 1 v (col i xs).length ((col i xs).map Value.string) := by
      obtain ⟨a1, a2⟩ := h3
      refine ⟨a1, a2.elim .inl (fun ⟨g, cap, cur, e1, e2, e3⟩ => .inr ⟨g, cap, cur, e1, ?_, e3⟩)⟩
      have := HB.out
      omega
    have hb : Below w.heap.size w (W.putObj D (.deferred none)) := (h4.mono (Nat.le_of_eq HB.out.symm)).trans ((Step.putObj _ _ _).below (fun k e => by subst e; have := HB.out; omega) h4.size)
    refine ⟨_, results_tmp rfl _ _ _, h, v, hup, rfl, ?_, hb⟩
    rw [← HC.out]
    refine Kd.R_of_own (own_move h3' (fun k hk => World.putObj_heap_other (fun e => ?_))) (fun _ _ => trivial)
    subst e
    exact hOD (.inr (.inr hk.symm))
  case stop =>
    rintro D c pre O W hD hS h hOD hK
    exact h.elim
end Go.Proofs.Ytgepeapfninmeaa.Dg
