import Derived.Test.YthokkeljfdfppaaPbx0
namespace Go.Proofs.Ythokkeljfdfppaa.Pb
open Go.RowKit Go.Proofs.YthokkeljfdfppaaW.PrintWords Go.Proofs.YthokkeljfdfppaaW.PrintLast Go.Proofs.YthokkeljfdfppaaW.PrintMore
attribute [local go_sem] max2_int min2_int max_two min_two max_three min_three max_four min_four   -- for this text's walks alone
set_option linter.unusedVariables false
set_option linter.unusedSimpArgs false

theorem zao11 {p : Prop} (h : p := by exact (by (with_reducible repeat (first | apply Kd.R_alloc | apply Kd.R_drewN | apply Kd.R_drew)); exact HO_4.out)) : p := h
theorem zao10 {p : Prop} (h : p := by repeat (first | (with_reducible first | exact HBW.out | apply below_alloc | apply pw_below_drewN | apply below_drew1) | exact HBW.out)) : p := h
theorem zao9 {p : Prop} (h : p := by first | (with_reducible assumption) | assumption) : p := h
theorem zao8 {p : Prop} (h : p := by first | rfl | (simp [errW_none, errW_some] <;> rfl) | (simp only [← hji11, ← hji13, ← hji25]; first | rfl | (simp [errW_none, errW_some] <;> rfl)) | (simp [*, errW_none, errW_some] <;> rfl)) : p := h
theorem zao7 {p : Prop} (h : p := by have := HK1.out; have := HJ1.out; first | omega | exact Nat.le_refl _) : p := h
theorem zao6 {p : Prop} (h : p := by first | rfl | (simp; done) | (simp [*]; done)) : p := h
theorem zao5 {p : Prop} (h : p := by first | rfl | (simp [errW_none, errW_some] <;> rfl) | (simp [*, errW_none, errW_some] <;> rfl)) : p := h
theorem zao4 {p : Prop} (h : p := by repeat (with_reducible first | exact HB.out | apply below_alloc | apply pw_below_drewN | apply below_drew1)) : p := h
theorem zao3 {p : Prop} (h : p := by (try simp only [List.map_toArray, List.map_cons, List.map_nil]); first | done | rfl | (simp only [List.length_drop, List.length_take]; rfl)) : p := h
theorem zao2 {p : Prop} (h : p := by repeat (first | (with_reducible first | exact HK.out | apply KeepBut.set_ | apply keep_drewN | apply keep_drew | apply keep_alloc) | exact HK.out)) : p := h
theorem zao1 {p : Prop} (h : p := by repeat (first | (with_reducible first | exact HB.out | apply below_alloc | apply pw_below_drewN | apply below_drew1 | refine below_set ?_ (IsS161.ge HI0.out)) | exact HB.out)) : p := h
theorem zao0 {p : Prop} (h : p := by repeat (first | (with_reducible first | exact HI0.out | apply IsS161.alloc | apply IsS161.drewN | apply IsS161.drew | apply IsS161.set_0 | apply IsS161.set_1) | exact HI0.out)) : p := h
mutual
def wire_Int.j0 : Nat → Int → Option (ByteArray)
 | 0, _ => none
 | k + 1, x3 => wire_Int.l0 k x3 ([] : List Int)
def wire_Int.l0 : Nat → Int → List Int → Option (ByteArray)
 | 0, _, _ => none
 | k + 1, x3, x4 => if x3 ≥ 128 then (if x4.length < 140737488355328 then (wire_Int.l0 k (x3 / 128) (x4 ++ [Go.bits .or .u8 ((x3) % 256) 128])) else (none)) else (if x4.length < 140737488355328 then (some (strOfNums (x4 ++ [(x3) % 256]))) else (none))
end
def wire_Int.f (k : Nat) (a0 : Int) : Option (ByteArray) := if a0 < 0 then (wire_Int.j0 k (Go.bits .xor .u64 18446744073709551615 (IntKind.u64.wrap ((IntKind.u64.wrap (a0)) * 2)))) else (wire_Int.j0 k (IntKind.u64.wrap ((IntKind.u64.wrap (a0)) * 2)))
theorem wire_Int.mono_l : ∀ k, (∀ y0, LeO (wire_Int.j0 k y0) (wire_Int.j0 (k + 1) y0)) ∧ (∀ y0 y1, LeO (wire_Int.l0 k y0 y1) (wire_Int.l0 (k + 1) y0 y1))
 | 0 => ⟨fun _ r h => by simp [wire_Int.j0] at h, fun _ _ r h => by simp [wire_Int.l0] at h⟩
 | k + 1 => by
   obtain ⟨ih0, ih1⟩ := wire_Int.mono_l k
   refine ⟨?_, ?_⟩
   · intro y0
     unfold wire_Int.j0
     repeat' first
     | (with_reducible exact ih0 _)
     | (with_reducible exact ih1 _ _)
     | (with_reducible exact LeO.refl _)
     | (with_reducible exact LeO.none _)
     | (with_reducible refine LeO.ite ?_ ?_)
     | (with_reducible refine LeO.bind ?_ (fun _ => ?_))
     | exact ih0 _
     | exact ih1 _ _
     | exact LeO.none _
     | refine LeO.ite ?_ ?_
     | refine LeO.bind ?_ (fun _ => ?_)
   · intro y0 y1
     unfold wire_Int.l0
     repeat' first
     | (with_reducible exact ih0 _)
     | (with_reducible exact ih1 _ _)
     | (with_reducible exact LeO.refl _)
     | (with_reducible exact LeO.none _)
     | (with_reducible refine LeO.ite ?_ ?_)
     | (with_reducible refine LeO.bind ?_ (fun _ => ?_))
     | exact ih0 _
     | exact ih1 _ _
     | exact LeO.none _
     | refine LeO.ite ?_ ?_
     | refine LeO.bind ?_ (fun _ => ?_)
set_option maxHeartbeats 8000000 in
set_option maxRecDepth 100000 in
theorem wire_Int.calls (k : Nat) (a0 : Int) (r : ByteArray) (w : World) (h : wire_Int.f k a0 = some r) :
 Calls Try.prog 50 #[.int .i64 a0] w fun e w' => e = .returned (.string r) ∧ Below w.heap.size w w' := by
 have HB := Aside0.mk (Below.refl w.heap.size w)
 have H : (if a0 < 0 then (wire_Int.j0 k (Go.bits .xor .u64 18446744073709551615 (IntKind.u64.wrap ((IntKind.u64.wrap (a0)) * 2)))) else (wire_Int.j0 k (IntKind.u64.wrap ((IntKind.u64.wrap (a0)) * 2)))) = some r := h
 clear h
 have HC2 := Aside0.mk H
 clear H
 go_enter Try.func50, Try.ntmps50
 go_upto_if 9 with (fail)
 go_cut [3] (fun v3 wc => ∃ (kq : Nat) (x3_1 : Int), v3 = .int .u64 x3_1 ∧ Aside0 (wire_Int.j0 kq x3_1 = some r) ∧ Aside0 (kq ≤ k) ∧ Aside0 (Below w.heap.size w wc))
 case first =>
  have H := HC2.out
  clear HC2
  by_cases c3 : a0 < 0
  · rw [if_pos c3] at H
    have c3b0 : decide (a0 < 0) = true := decide_eq_true c3
    clear c3
    (first | rw [c3b0] | (simp only [i64_w, i32_w]; rw [c3b0]) | skip)
    have H' := Aside0.mk H
    clear H
    go_wp2
    go_meet
    case rel => exact ⟨_, (Go.bits .xor .u64 18446744073709551615 (IntKind.u64.wrap ((IntKind.u64.wrap (a0)) * 2))), zao6, H', ⟨by first | omega | exact Nat.le_refl _⟩, ⟨zao4⟩⟩
  · rw [if_neg c3] at H
    have c3b0 : decide (a0 < 0) = false := decide_eq_false c3
    clear c3
    (first | rw [c3b0] | (simp only [i64_w, i32_w]; rw [c3b0]) | skip)
    have H' := Aside0.mk H
    clear H
    go_wp2
    go_meet
    case rel => exact ⟨_, (IntKind.u64.wrap ((IntKind.u64.wrap (a0)) * 2)), zao6, H', ⟨by first | omega | exact Nat.le_refl _⟩, ⟨zao4⟩⟩
 case rest =>
  clear HC2
  try clear p2
  try clear c3
  try clear c3b0
  obtain ⟨kq, x3_1, rfl, HA, HJ1, HB⟩ := hcut
  cases kq with
  | zero => exact absurd HA.out (by simp [wire_Int.j0])
  | succ kj1 =>
    have H := HA.out
    clear HA
    simp only [wire_Int.j0] at H
    have H' := Aside0.mk H
    clear H
    go_wp2
    go_loopg [3, 4] kj1 (fun kq v3 v4 w' => ∃ (x3_2 : Int) (x4_2 : List Int), v3 = .int .u64 x3_2 ∧ Aside0 (wire_Int.l0 kq x3_2 x4_2 = some r) ∧ Aside0 (kq ≤ kj1) ∧ Aside0 (Kd.R (Kd.int .u8) 5 w' w.heap.size (fun _ => True) v4 x4_2) ∧ Aside0 (Below w.heap.size w w'))
    case atStart => exact ⟨(x3_1), (([] : List Int)), zao6, H', ⟨Nat.le_refl _⟩, ⟨by first | exact Kd.R_nil _ _ _ _ _ | exact Kd.N_nil _ _ _ _ _ | exact Kd.V_nil _ _ _ _ _ | exact Kd.Q_nil _ _ _ _ _ | exact Kd.S_nil _ _ _ _ _⟩, ⟨zao4⟩⟩
    case round =>
     clear H'
     try clear p2
     try clear c3
     try clear c3b0
     try clear p2
     obtain ⟨x3_2, x4_2, rfl, HA, HK2, HO_4, HB⟩ := hrel
     cases gk with
     | zero => exact absurd HA.out (by simp [wire_Int.l0])
     | succ k2 =>
       have H := HA.out
       clear HA
       simp only [wire_Int.l0] at H
       by_cases c4 : x3_2 ≥ 128
       · rw [if_pos c4] at H
         have c4b0 : decide (128 ≤ x3_2) = true := decide_eq_true c4
         clear c4
         by_cases c5 : x4_2.length < 140737488355328
         · rw [if_pos c5] at H
           have LMc5 := Aside0.mk c5
           clear c5
           obtain ⟨y101, hy101⟩ : ∃ y_ : List Int, y_ = (x4_2 ++ [Go.bits .or .u8 ((x3_2) % 256) 128]) := ⟨_, rfl⟩
           replace H : (wire_Int.l0 k2 (x3_2 / 128) y101) = some r := by first | (rw [hy101]; with_reducible exact H) | (have H2_ := (Option.bind_some _ _).symm.trans H; rw [hy101]; with_reducible exact H2_) | (have H2_ := (Option.bind_some _ _).symm.trans H; with_reducible exact H2_) | with_reducible exact H | (rw [hy101]; exact H) | exact H
           have Ny101 := Aside0.mk hy101
           clear hy101
           have H' := Aside0.mk H
           clear H
           go_wp2_with (first | ((with_reducible refine gate_builtin (b := .append) (xs := #[.tmp 16, .tmp 20]) rfl ?_); at_builtin; refine Kd.R_append (Kd.int .u8) (w0 := w) w.heap.size rfl (.tmp 16) (.tmp 20) 114 5 (.int .u8 0) 1 rfl Try.underlying114 info5 rfl (by decide) (by omega) u4 x4_2 (Go.bits .or .u8 ((x3_2) % 256) 128) [.int .u8 (Go.bits .or .u8 ((x3_2) % 256) 128)] (fun _ => True) (fun _ => False) rfl rfl ?aP (fun _ hk => hk.elim) ?aF ?aO ?aB ?aS ?aL ?_; (case aP => exact rfl); (case aB => exact zao4); (case aF => exact (fun _ _ => trivial)); (case aO => exact zao11); (case aS => exact (below_size zao4)); (case aL => have := LMc5.out; omega); intro v102 w6 ho hb hg hat; rw [← Ny101.out] at ho; have n0_ := Aside0.mk (hb); have n1_ := Aside0.mk (ho); clear HB; clear HO_4; have HB := n0_; have HO103 := n1_; clear n0_ n1_; clear ho hb hg hat))
           go_roundg k2
           case measure => have := HJ1.out; have := HK2.out; omega
           case rel => exact ⟨(x3_2 / 128), (y101), zao6, H', ⟨by have := HJ1.out; have := HK2.out; omega⟩, ⟨by (with_reducible repeat (first | apply Kd.R_alloc | apply Kd.R_drewN | apply Kd.R_drew)); exact HO103.out⟩, ⟨zao4⟩⟩
         · rw [if_neg c5] at H
           exact absurd H (by simp)
       · rw [if_neg c4] at H
         have c4b0 : decide (128 ≤ x3_2) = false := decide_eq_false c4
         clear c4
         by_cases c7 : x4_2.length < 140737488355328
         · rw [if_pos c7] at H
           have LMc7 := Aside0.mk c7
           clear c7
           obtain ⟨y104, hy104⟩ : ∃ y_ : List Int, y_ = (x4_2 ++ [(x3_2) % 256]) := ⟨_, rfl⟩
           replace H : (some (strOfNums y104)) = some r := by first | (rw [hy104]; with_reducible exact H) | (have H2_ := (Option.bind_some _ _).symm.trans H; rw [hy104]; with_reducible exact H2_) | (have H2_ := (Option.bind_some _ _).symm.trans H; with_reducible exact H2_) | with_reducible exact H | (rw [hy104]; exact H) | exact H
           have Ny104 := Aside0.mk hy104
           clear hy104
           obtain rfl := Option.some.inj H
           go_wp2_with (first | ((with_reducible refine gate_builtin (b := .append) (xs := #[.tmp 22, .tmp 25]) rfl ?_); at_builtin; refine Kd.R_append (Kd.int .u8) (w0 := w) w.heap.size rfl (.tmp 22) (.tmp 25) 114 5 (.int .u8 0) 1 rfl Try.underlying114 info5 rfl (by decide) (by omega) u4 x4_2 ((x3_2) % 256) [.int .u8 ((x3_2) % 256)] (fun _ => True) (fun _ => False) rfl rfl ?aP (fun _ hk => hk.elim) ?aF ?aO ?aB ?aS ?aL ?_; (case aP => exact rfl); (case aB => exact zao4); (case aF => exact (fun _ _ => trivial)); (case aO => exact zao11); (case aS => exact (below_size zao4)); (case aL => have := LMc7.out; omega); intro v105 w8 ho hb hg hat; rw [← Ny104.out] at ho; have n0_ := Aside0.mk (hb); have n1_ := Aside0.mk (ho); clear HB; clear HO_4; have HB := n0_; have HO106 := n1_; clear n0_ n1_; clear ho hb hg hat; have hcv9 := own_string (P := Try.prog) Try.underlying114 Try.underlying5 Try.underlying9 (Kd.own_of_R HO106.out)))
           go_ret
           exact ⟨zao5, zao4⟩
         · rw [if_neg c7] at H
           exact absurd H (by simp)

def IsS161 (w0 W : World) (g : Nat) (f0 : ByteArray) (f1 : Bool) : Prop := W.heap[g]? = some (.cells #[.string f0, .bool f1] 161 (0, 0)) ∧ w0.heap.size ≤ g
theorem IsS161.grown {w0 W : World} {g : Nat} {f0 : ByteArray} {f1 : Bool} {W1 : World} {row : Option Nat} (h : IsS161 w0 W g f0 f1) (hw : W.grownBy W1 row) (hne : some g ≠ row) : IsS161 w0 W1 g f0 f1 := by
 obtain ⟨hb, hg⟩ := h
 exact ⟨blk_grown hb hw hne, hg⟩
theorem IsS161.kept {w0 W : World} {g : Nat} {f0 : ByteArray} {f1 : Bool} {W1 : World} {S : Nat → Prop} (h : IsS161 w0 W g f0 f1) (hk : Kept W W1 S) (hne : ¬ S g) : IsS161 w0 W1 g f0 f1 := by
 obtain ⟨hb, hg⟩ := h
 exact ⟨blk_kept hb hk hne, hg⟩
theorem IsS161.below {w0 W : World} {g : Nat} {f0 : ByteArray} {f1 : Bool} {W1 : World} (h : IsS161 w0 W g f0 f1) (hw : Below W.heap.size W W1) : IsS161 w0 W1 g f0 f1 := h.grown (grown_of_below hw none) (by simp)
theorem IsS161.alloc {w0 W : World} {g : Nat} {f0 : ByteArray} {f1 : Bool} (h : IsS161 w0 W g f0 f1) (o : Obj) : IsS161 w0 (W.alloc o) g f0 f1 := h.below (below_alloc (Below.refl _ _) o)
theorem IsS161.drewN {w0 W : World} {g : Nat} {f0 : ByteArray} {f1 : Bool} (h : IsS161 w0 W g f0 f1) (m : Nat) : IsS161 w0 (W.drewN m) g f0 f1 := h
theorem IsS161.drew {w0 W : World} {g : Nat} {f0 : ByteArray} {f1 : Bool} (h : IsS161 w0 W g f0 f1) : IsS161 w0 W.drew g f0 f1 := h
theorem IsS161.at_ {w0 W : World} {g : Nat} {f0 : ByteArray} {f1 : Bool} {w' : World} {m : Nat} (hq : W.drewN m = w') (h : IsS161 w0 W g f0 f1) : IsS161 w0 w' g f0 f1 := by subst hq; exact IsS161.drewN h m
theorem IsS161.apart {w0 W : World} {g : Nat} {f0 : ByteArray} {f1 : Bool} {α : Type} {d : Kd α} {e : Nat} {base : Nat} {ok : Nat → Prop} {v : Value} {xs : List α} (h : IsS161 w0 W g f0 f1) (ho : d.R e W base ok v xs) (ht : ∀ q, q ∈ e :: d.E → q ≠ 161) : d.R e W base (fun k => ok k ∧ k ≠ g) v xs := by
 obtain ⟨hb, hg⟩ := h
 exact Kd.R_types ho hb ht
theorem IsS161.own_ne {w0 W : World} {g : Nat} {f0 : ByteArray} {f1 : Bool} {α : Type} {d : Kd α} {e : Nat} {base : Nat} {ok : Nat → Prop} {v : Value} {xs : List α} (h : IsS161 w0 W g f0 f1) (ho : d.R e W base ok v xs) (ht : e ≠ 161) : some g ≠ v.ownBlock := by
 obtain ⟨hb, hg⟩ := h
 exact Kd.R_ne ho hb ht
theorem IsS161.lt {w0 W : World} {g : Nat} {f0 : ByteArray} {f1 : Bool} (h : IsS161 w0 W g f0 f1) : g < W.heap.size := by
 obtain ⟨hb, hg⟩ := h
 exact blk_lt hb
theorem IsS161.ge {w0 W : World} {g : Nat} {f0 : ByteArray} {f1 : Bool} (h : IsS161 w0 W g f0 f1) : w0.heap.size ≤ g := by
 obtain ⟨hb, hg⟩ := h
 exact hg
theorem IsS161.far {w0 W : World} {g : Nat} {f0 : ByteArray} {f1 : Bool} {p : Addr} (h : IsS161 w0 W g f0 f1) (hne : g ≠ p.block) (u : Value) : IsS161 w0 (W.setCell p u) g f0 f1 := by
 obtain ⟨hb, hg⟩ := h
 exact ⟨blk_far hb hne u, hg⟩
theorem cellS161_0 {W : World} {g : Nat} {f0 : ByteArray} {f1 : Bool} (h : W.heap[g]? = some (.cells #[.string f0, .bool f1] 161 (0, 0))) : W.cell? ⟨g, 0, none⟩ = some (.string f0) := (blk_cell h 0).trans rfl
theorem IsS161.set_0 {w0 W : World} {g : Nat} {f0 : ByteArray} {f1 : Bool} (h : IsS161 w0 W g f0 f1) (x : ByteArray) : IsS161 w0 (W.setCell ⟨g, 0, none⟩ (.string x)) g x f1 := by
 obtain ⟨hb, hg⟩ := h
 exact ⟨by simpa using blk_set hb 0 (.string x), hg⟩
theorem cellS161_1 {W : World} {g : Nat} {f0 : ByteArray} {f1 : Bool} (h : W.heap[g]? = some (.cells #[.string f0, .bool f1] 161 (0, 0))) : W.cell? ⟨g, 1, none⟩ = some (.bool f1) := (blk_cell h 1).trans rfl
theorem IsS161.set_1 {w0 W : World} {g : Nat} {f0 : ByteArray} {f1 : Bool} (h : IsS161 w0 W g f0 f1) (x : Bool) : IsS161 w0 (W.setCell ⟨g, 1, none⟩ (.bool x)) g f0 x := by
 obtain ⟨hb, hg⟩ := h
 exact ⟨by simpa using blk_set hb 1 (.bool x), hg⟩
def wire_New.f (a0 : ByteArray) : Option (ByteArray × Bool) := some (a0, false)
set_option maxHeartbeats 8000000 in
set_option maxRecDepth 100000 in
theorem wire_New.calls (a0 : ByteArray) (r1 : ByteArray) (r2 : Bool) (w0 w : World) (hB : Below w0.heap.size w0 w) (h : wire_New.f a0 = some (r1, r2)) :
 Calls Try.prog 55 #[.string a0] w fun e w' => ∃ g_ : Nat, e = .returned (.pointer (some ⟨g_, 0, none⟩)) ∧ IsS161 w0 w' g_ r1 r2 ∧ Below w0.heap.size w0 w' ∧ Below w.heap.size w w' := by
 have hu161 := Try.underlying161
 have HBW := Aside0.mk (Below.refl w.heap.size w)
 have HW0 := Aside0.mk hB.size
 have HB := Aside0.mk hB
 clear hB
 have H : (some (a0, false)) = some (r1, r2) := h
 clear h
 simp only [Option.some.injEq, Prod.mk.injEq] at H
 obtain ⟨rfl, rfl⟩ := H
 go_enter Try.func55, Try.ntmps55
 go_wp2_with (first | ((with_reducible refine gate_dst (N := 5) rfl ?_); refine box_event ?hg (N := 5) ?hd (cs := #[.string a0, .bool false]) (t := 161) ?hr ?_; (case hd => rfl); (case hg => rfl); (case hr => first | (go_simp; done) | (go_simp; rfl)); intro gb107 hg w2 hbox hb; have n0_ := Aside0.mk (below_step HBW.out hb); have n1_ := Aside0.mk (below_step zao4 hb); have n2_ := Aside0.mk (hbox); have n3_ := Aside0.mk ((by rw [hg]; exact (below_size zao10) : w.heap.size ≤ gb107)); have n4_ := Aside0.mk ((Nat.le_trans HW0.out (by rw [hg]; exact (below_size zao10) : w.heap.size ≤ gb107) : w0.heap.size ≤ gb107)); clear HBW; clear HB; have HBW := n0_; have HB := n1_; have BK107 := n2_; have GW107 := n3_; have GE107 := n4_; clear n0_ n1_ n2_ n3_ n4_; clear hb hbox hg))
 go_ret
 exact ⟨_, rfl, (show IsS161 w0 _ gb107 a0 false from ⟨by (with_reducible repeat (first | refine blk_drewN ?_ _ | refine blk_drew ?_ | refine blk_alloc ?_ _)); exact BK107.out, GE107.out⟩), by repeat (first | (with_reducible first | exact HB.out | apply below_alloc | apply pw_below_drewN | apply below_drew1 | refine below_set ?_ GE107.out) | exact HB.out), by repeat (first | (with_reducible first | exact HBW.out | apply below_alloc | apply pw_below_drewN | apply below_drew1 | refine below_set ?_ GW107.out) | exact HBW.out)⟩

def wire_Reader_Bad.f (s0_0 : ByteArray) (s0_1 : Bool) : Option (Bool × ByteArray × Bool) := some (s0_1, s0_0, s0_1)
set_option maxHeartbeats 8000000 in
set_option maxRecDepth 100000 in
theorem wire_Reader_Bad.calls (g : Nat) (s0_0 : ByteArray) (s0_1 : Bool) (r1 : Bool) (r2 : ByteArray) (r3 : Bool) (w0 w : World) (hI : IsS161 w0 w g s0_0 s0_1) (hB : Below w0.heap.size w0 w) (h : wire_Reader_Bad.f s0_0 s0_1 = some (r1, r2, r3)) :
 Calls Try.prog 58 #[.pointer (some ⟨g, 0, none⟩)] w fun e w' => e = .returned (.bool r1) ∧ IsS161 w0 w' g r2 r3 ∧ Below w0.heap.size w0 w' ∧ KeepBut w w' g none := by
 have HI0 := Aside0.mk hI
 have HK := Aside0.mk (KeepBut.refl w g none)
 have HL := Aside0.mk hB.size
 clear hI
 have HW0 := Aside0.mk hB.size
 have HB := Aside0.mk hB
 clear hB
 have H : (some (s0_1, s0_0, s0_1)) = some (r1, r2, r3) := h
 clear h
 simp only [Option.some.injEq, Prod.mk.injEq] at H
 obtain ⟨rfl, rfl, rfl⟩ := H
 obtain ⟨HGz2, hgz2⟩ := HI0.out
 have hcz2_0 := cellS161_0 HGz2
 have hcz2_1 := cellS161_1 HGz2
 have hfz2_0 := blk_frozen HGz2 0
 have hfz2_1 := blk_frozen HGz2 1
 clear HGz2 hgz2
 go_enter Try.func58, Try.ntmps58
 go_wp2
 go_ret
 exact ⟨zao5, zao0, zao1, zao2⟩

def wire_Reader_Left.f (s0_0 : ByteArray) (s0_1 : Bool) : Option (Int × ByteArray × Bool) := (wire_Reader_Bad.f s0_0 s0_1).bind fun bt108 => (if bt108.1 = true then (some (0, bt108.2.1, bt108.2.2)) else (some ((bt108.2.1.size : Int), bt108.2.1, bt108.2.2)))
set_option maxHeartbeats 8000000 in
set_option maxRecDepth 100000 in
theorem wire_Reader_Left.calls (g : Nat) (s0_0 : ByteArray) (s0_1 : Bool) (r1 : Int) (r2 : ByteArray) (r3 : Bool) (w0 w : World) (hI : IsS161 w0 w g s0_0 s0_1) (hB : Below w0.heap.size w0 w) (h : wire_Reader_Left.f s0_0 s0_1 = some (r1, r2, r3)) :
 Calls Try.prog 59 #[.pointer (some ⟨g, 0, none⟩)] w fun e w' => e = .returned (.int .i64 r1) ∧ IsS161 w0 w' g r2 r3 ∧ Below w0.heap.size w0 w' ∧ KeepBut w w' g none := by
 have HI0 := Aside0.mk hI
 have HK := Aside0.mk (KeepBut.refl w g none)
 have HL := Aside0.mk hB.size
 clear hI
 have HW0 := Aside0.mk hB.size
 have HB := Aside0.mk hB
 clear hB
 have H : ((wire_Reader_Bad.f s0_0 s0_1).bind fun bt108 => (if bt108.1 = true then (some (0, bt108.2.1, bt108.2.2)) else (some ((bt108.2.1.size : Int), bt108.2.1, bt108.2.2)))) = some (r1, r2, r3) := h
 clear h
 replace H := Option.bind_eq_some_iff.mp H
 obtain ⟨⟨t108, t109, t110⟩, A20, H⟩ := H
 try dsimp only at H
 have A2 := Aside0.mk A20
 clear A20
 by_cases c3 : t108 = true
 · subst c3
   rw [if_pos rfl] at H
   simp only [Option.some.injEq, Prod.mk.injEq] at H
   obtain ⟨rfl, rfl, rfl⟩ := H
   go_enter Try.func59, Try.ntmps59
   go_wp2_with (first | ((with_reducible refine gate_callee (f := 58) rfl ?_); refine goesL_ (some 4) rfl rfl Try.func58 (by kernel_rfl) rfl #[.pointer (some ⟨g, 0, none⟩)] rfl zao3 ?_; (with_reducible refine (wire_Reader_Bad.calls g s0_0 s0_1 true t109 t110 w0 _ ?side1 ?side2 A2.out).mono ?_); (case side1 => exact zao0); (case side2 => exact zao1); rintro e w4 ⟨rfl, hi, hb, hk⟩; refine ⟨_, rfl, ?_⟩; have n0_ := Aside0.mk (KeepBut.trans zao2 hk (.inl rfl)); have n1_ := Aside0.mk (hb); have n2_ := Aside0.mk (hi); clear HK; clear HB; clear HI0; have HK := n0_; have HB := n1_; have HI0 := n2_; clear n0_ n1_ n2_; (try clear hb); (try clear hb2); (try clear hk); (try clear hi)))
   go_ret
   exact ⟨zao5, zao0, zao1, zao2⟩
 · replace c3 := Bool.eq_false_iff.mpr c3
   subst c3
   rw [if_neg (show ¬ (false = true) by decide)] at H
   simp only [Option.some.injEq, Prod.mk.injEq] at H
   obtain ⟨rfl, rfl, rfl⟩ := H
   go_enter Try.func59, Try.ntmps59
   go_wp2_with (first | ((with_reducible refine gate_callee (f := 58) rfl ?_); refine goesL_ (some 4) rfl rfl Try.func58 (by kernel_rfl) rfl #[.pointer (some ⟨g, 0, none⟩)] rfl zao3 ?_; (with_reducible refine (wire_Reader_Bad.calls g s0_0 s0_1 false t109 t110 w0 _ ?side1 ?side2 A2.out).mono ?_); (case side1 => exact zao0); (case side2 => exact zao1); rintro e w5 ⟨rfl, hi, hb, hk⟩; refine ⟨_, rfl, ?_⟩; have n0_ := Aside0.mk (KeepBut.trans zao2 hk (.inl rfl)); have n1_ := Aside0.mk (hb); have n2_ := Aside0.mk (hi); clear HK; clear HB; clear HI0; have HK := n0_; have HB := n1_; have HI0 := n2_; clear n0_ n1_ n2_; (try clear hb); (try clear hb2); (try clear hk); (try clear hi); obtain ⟨HGz6, hgz6⟩ := HI0.out; have hcz6_0 := cellS161_0 HGz6; have hcz6_1 := cellS161_1 HGz6; have hfz6_0 := blk_frozen HGz6 0; have hfz6_1 := blk_frozen HGz6 1; clear HGz6 hgz6))
   go_ret
   exact ⟨zao5, zao0, zao1, zao2⟩

def wire_Reader_fail.f (s0_0 : ByteArray) (s0_1 : Bool) : Option (ByteArray × Bool) := some (s0_0, true)
set_option maxHeartbeats 8000000 in
set_option maxRecDepth 100000 in
theorem wire_Reader_fail.calls (g : Nat) (s0_0 : ByteArray) (s0_1 : Bool) (r1 : ByteArray) (r2 : Bool) (w0 w : World) (hI : IsS161 w0 w g s0_0 s0_1) (hB : Below w0.heap.size w0 w) (h : wire_Reader_fail.f s0_0 s0_1 = some (r1, r2)) :
 Calls Try.prog 94 #[.pointer (some ⟨g, 0, none⟩)] w fun e w' => e = .returned (.tuple #[]) ∧ IsS161 w0 w' g r1 r2 ∧ Below w0.heap.size w0 w' ∧ KeepBut w w' g none := by
 have HI0 := Aside0.mk hI
 have HK := Aside0.mk (KeepBut.refl w g none)
 have HL := Aside0.mk hB.size
 clear hI
 have HW0 := Aside0.mk hB.size
 have HB := Aside0.mk hB
 clear hB
 have H : (some (s0_0, true)) = some (r1, r2) := h
 clear h
 simp only [Option.some.injEq, Prod.mk.injEq] at H
 obtain ⟨rfl, rfl⟩ := H
 obtain ⟨HGz2, hgz2⟩ := HI0.out
 have hcz2_0 := cellS161_0 HGz2
 have hcz2_1 := cellS161_1 HGz2
 have hfz2_0 := blk_frozen HGz2 0
 have hfz2_1 := blk_frozen HGz2 1
 clear HGz2 hgz2
 go_enter Try.func94, Try.ntmps94
 go_wp2
 first | go_end0 | ((try simp only [Exit.inBlock, Exit.then]); refine bodyPost_ret (results_none rfl _ _ _) rfl ?_)
 exact ⟨zao5, zao0, zao1, zao2⟩

mutual
def wire_Reader_Int.l0 : Nat → Int → Int → ByteArray → Bool → Option (Int × ByteArray × Bool)
 | 0, _, _, _, _ => none
 | k + 1, x3, x4, x1000, x1001 => (wire_Reader_Left.f x1000 x1001).bind fun bt111 => (if x4 < bt111.1 then (wire_Reader_Int.j1 k x3 x4 (decide (x4 < 10)) bt111.2.1 bt111.2.2) else (wire_Reader_Int.j1 k x3 x4 false bt111.2.1 bt111.2.2))
def wire_Reader_Int.j1 : Nat → Int → Int → Bool → ByteArray → Bool → Option (Int × ByteArray × Bool)
 | 0, _, _, _, _, _ => none
 | k + 1, x3, x4, x14, x1000, x1001 => if x14 = true then (if 0 ≤ x4 then (if x4 < (x1000.size : Int) then (if 0 ≤ (wrap64 (7 * x4)) then (if (bt x1000 x4) ≥ 128 then (wire_Reader_Int.l0 k (Go.bits .or .u64 x3 (shl .u64 (IntKind.u64.wrap (Go.bits .and .u8 (bt x1000 x4) 127)) (wrap64 (7 * x4)))) (wrap64 (x4 + 1)) x1000 x1001) else (if x4 > 0 then (if (bt x1000 x4) = 0 then (wire_Reader_Int.j2 k (Go.bits .or .u64 x3 (shl .u64 (IntKind.u64.wrap (Go.bits .and .u8 (bt x1000 x4) 127)) (wrap64 (7 * x4)))) x4 true x1000 x1001) else (if x4 = 9 then (wire_Reader_Int.j2 k (Go.bits .or .u64 x3 (shl .u64 (IntKind.u64.wrap (Go.bits .and .u8 (bt x1000 x4) 127)) (wrap64 (7 * x4)))) x4 (decide ((bt x1000 x4) > 1)) x1000 x1001) else (wire_Reader_Int.j2 k (Go.bits .or .u64 x3 (shl .u64 (IntKind.u64.wrap (Go.bits .and .u8 (bt x1000 x4) 127)) (wrap64 (7 * x4)))) x4 false x1000 x1001))) else (if x4 = 9 then (wire_Reader_Int.j2 k (Go.bits .or .u64 x3 (shl .u64 (IntKind.u64.wrap (Go.bits .and .u8 (bt x1000 x4) 127)) (wrap64 (7 * x4)))) x4 (decide ((bt x1000 x4) > 1)) x1000 x1001) else (wire_Reader_Int.j2 k (Go.bits .or .u64 x3 (shl .u64 (IntKind.u64.wrap (Go.bits .and .u8 (bt x1000 x4) 127)) (wrap64 (7 * x4)))) x4 false x1000 x1001)))) else (none)) else (none)) else (none)) else ((wire_Reader_fail.f x1000 x1001).bind fun bt114 => (some (0, bt114.1, bt114.2)))
def wire_Reader_Int.j2 : Nat → Int → Int → Bool → ByteArray → Bool → Option (Int × ByteArray × Bool)
 | 0, _, _, _, _, _ => none
 | k + 1, x3, x4, x46, x1000, x1001 => if x46 = true then ((wire_Reader_fail.f x1000 x1001).bind fun bt116 => (some (0, bt116.1, bt116.2))) else (if 0 ≤ (wrap64 (x4 + 1)) then (if (wrap64 (x4 + 1)) ≤ (x1000.size : Int) then (if (Go.bits .and .u64 x3 1) = 1 then (some (Go.bits .xor .i64 (-1) (wrap64 (x3 / 2)), x1000.extract ((wrap64 (x4 + 1)) : Int).toNat x1000.size, x1001)) else (some (wrap64 (x3 / 2), x1000.extract ((wrap64 (x4 + 1)) : Int).toNat x1000.size, x1001))) else (none)) else (none))
end
def wire_Reader_Int.f (k : Nat) (s0_0 : ByteArray) (s0_1 : Bool) : Option (Int × ByteArray × Bool) := wire_Reader_Int.l0 k 0 0 s0_0 s0_1
theorem wire_Reader_Int.mono_l : ∀ k, (∀ y0 y1 y2 y3, LeO (wire_Reader_Int.l0 k y0 y1 y2 y3) (wire_Reader_Int.l0 (k + 1) y0 y1 y2 y3)) ∧ (∀ y0 y1 y2 y3 y4, LeO (wire_Reader_Int.j1 k y0 y1 y2 y3 y4) (wire_Reader_Int.j1 (k + 1) y0 y1 y2 y3 y4)) ∧ (∀ y0 y1 y2 y3 y4, LeO (wire_Reader_Int.j2 k y0 y1 y2 y3 y4) (wire_Reader_Int.j2 (k + 1) y0 y1 y2 y3 y4))
 | 0 => ⟨fun _ _ _ _ r h => by simp [wire_Reader_Int.l0] at h, fun _ _ _ _ _ r h => by simp [wire_Reader_Int.j1] at h, fun _ _ _ _ _ r h => by simp [wire_Reader_Int.j2] at h⟩
 | k + 1 => by
   obtain ⟨ih0, ih1, ih2⟩ := wire_Reader_Int.mono_l k
   refine ⟨?_, ?_, ?_⟩
   · intro y0 y1 y2 y3
     unfold wire_Reader_Int.l0
     repeat' first
     | (with_reducible exact ih0 _ _ _ _)
     | (with_reducible exact ih1 _ _ _ _ _)
     | (with_reducible exact ih2 _ _ _ _ _)
     | (with_reducible exact LeO.refl _)
     | (with_reducible exact LeO.none _)
     | (with_reducible refine LeO.ite ?_ ?_)
     | (with_reducible refine LeO.bind ?_ (fun _ => ?_))
     | exact ih0 _ _ _ _
     | exact ih1 _ _ _ _ _
     | exact ih2 _ _ _ _ _
     | exact LeO.none _
     | refine LeO.ite ?_ ?_
     | refine LeO.bind ?_ (fun _ => ?_)
   · intro y0 y1 y2 y3 y4
     unfold wire_Reader_Int.j1
     repeat' first
     | (with_reducible exact ih0 _ _ _ _)
     | (with_reducible exact ih1 _ _ _ _ _)
     | (with_reducible exact ih2 _ _ _ _ _)
     | (with_reducible exact LeO.refl _)
     | (with_reducible exact LeO.none _)
     | (with_reducible refine LeO.ite ?_ ?_)
     | (with_reducible refine LeO.bind ?_ (fun _ => ?_))
     | exact ih0 _ _ _ _
     | exact ih1 _ _ _ _ _
     | exact ih2 _ _ _ _ _
     | exact LeO.none _
     | refine LeO.ite ?_ ?_
     | refine LeO.bind ?_ (fun _ => ?_)
   · intro y0 y1 y2 y3 y4
     unfold wire_Reader_Int.j2
     repeat' first
     | (with_reducible exact ih0 _ _ _ _)
     | (with_reducible exact ih1 _ _ _ _ _)
     | (with_reducible exact ih2 _ _ _ _ _)
     | (with_reducible exact LeO.refl _)
     | (with_reducible exact LeO.none _)
     | (with_reducible refine LeO.ite ?_ ?_)
     | (with_reducible refine LeO.bind ?_ (fun _ => ?_))
     | exact ih0 _ _ _ _
     | exact ih1 _ _ _ _ _
     | exact ih2 _ _ _ _ _
     | exact LeO.none _
     | refine LeO.ite ?_ ?_
     | refine LeO.bind ?_ (fun _ => ?_)
theorem wire_Reader_Int.mono : ∀ a0 a1 k, LeO (wire_Reader_Int.f k a0 a1) (wire_Reader_Int.f (k + 1) a0 a1) := by
 intro a0 a1 k
 obtain ⟨ih0, ih1, ih2⟩ := wire_Reader_Int.mono_l k
 unfold wire_Reader_Int.f
 repeat' first
 | (with_reducible exact ih0 _ _ _ _)
 | (with_reducible exact ih1 _ _ _ _ _)
 | (with_reducible exact ih2 _ _ _ _ _)
 | (with_reducible exact LeO.refl _)
 | (with_reducible exact LeO.none _)
 | (with_reducible refine LeO.ite ?_ ?_)
 | (with_reducible refine LeO.bind ?_ (fun _ => ?_))
 | exact ih0 _ _ _ _
 | exact ih1 _ _ _ _ _
 | exact ih2 _ _ _ _ _
 | exact LeO.none _
 | refine LeO.ite ?_ ?_
 | refine LeO.bind ?_ (fun _ => ?_)
set_option maxHeartbeats 8000000 in
set_option maxRecDepth 100000 in
theorem wire_Reader_Int.calls (k : Nat) (g : Nat) (s0_0 : ByteArray) (s0_1 : Bool) (r1 : Int) (r2 : ByteArray) (r3 : Bool) (w0 w : World) (hI : IsS161 w0 w g s0_0 s0_1) (hB : Below w0.heap.size w0 w) (h : wire_Reader_Int.f k s0_0 s0_1 = some (r1, r2, r3)) :
 Calls Try.prog 57 #[.pointer (some ⟨g, 0, none⟩)] w fun e w' => e = .returned (.int .i64 r1) ∧ IsS161 w0 w' g r2 r3 ∧ Below w0.heap.size w0 w' ∧ KeepBut w w' g none := by
 have HI0 := Aside0.mk hI
 have HK := Aside0.mk (KeepBut.refl w g none)
 have HL := Aside0.mk hB.size
 clear hI
 have HW0 := Aside0.mk hB.size
 have HB := Aside0.mk hB
 clear hB
 have H : (wire_Reader_Int.l0 k 0 0 s0_0 s0_1) = some (r1, r2, r3) := h
 clear h
 have H' := Aside0.mk H
 clear H
 go_enter Try.func57, Try.ntmps57
 go_wp2
 go_loopg [3, 4] k (fun kq v3 v4 w' => ∃ (x3_1 : Int) (x4_1 : Int) (x1000_1 : ByteArray) (x1001_1 : Bool), v3 = .int .u64 x3_1 ∧ v4 = .int .i64 x4_1 ∧ Aside0 (wire_Reader_Int.l0 kq x3_1 x4_1 x1000_1 x1001_1 = some (r1, r2, r3)) ∧ Aside0 (kq ≤ k) ∧ Aside0 (IsS161 w0 w' g x1000_1 x1001_1) ∧ Aside0 (KeepBut w w' g none) ∧ Aside0 (Below w0.heap.size w0 w'))
 case atStart => exact ⟨(0), (0), (s0_0), (s0_1), zao6, zao6, H', ⟨Nat.le_refl _⟩, ⟨zao0⟩, ⟨zao2⟩, ⟨zao1⟩⟩
 case round =>
  clear H'
  obtain ⟨x3_1, x4_1, x1000_1, x1001_1, rfl, rfl, HA, HK1, HI0, HK, HB⟩ := hrel
  cases gk with
  | zero => exact absurd HA.out (by simp [wire_Reader_Int.l0])
  | succ k1 =>
    have H := HA.out
    clear HA
    simp only [wire_Reader_Int.l0] at H
    have HC2 := Aside0.mk H
    clear H
    go_upto_region 3 with (fail)
    go_cut [14] (fun v14 wc => ∃ (kq : Nat) (x14_1 : Bool) (x1000_1 : ByteArray) (x1001_1 : Bool), v14 = .bool x14_1 ∧ Aside0 (wire_Reader_Int.j1 kq x3_1 x4_1 x14_1 x1000_1 x1001_1 = some (r1, r2, r3)) ∧ Aside0 (kq ≤ k1) ∧ Aside0 (IsS161 w0 wc g x1000_1 x1001_1) ∧ Aside0 (KeepBut w wc g none) ∧ Aside0 (Below w0.heap.size w0 wc))
    case first =>
     have H := HC2.out
     clear HC2
     replace H := Option.bind_eq_some_iff.mp H
     obtain ⟨⟨t111, t112, t113⟩, A30, H⟩ := H
     try dsimp only at H
     have A3 := Aside0.mk A30
     clear A30
     by_cases c4 : x4_1 < t111
     · rw [if_pos c4] at H
       have c4b0 : decide (x4_1 < t111) = true := decide_eq_true c4
       clear c4
       (first | rw [c4b0] | (simp only [i64_w, i32_w]; rw [c4b0]) | skip)
       have H' := Aside0.mk H
       clear H
       go_wp2_with (first | ((with_reducible refine gate_callee (f := 59) rfl ?_); refine goesL_ (some 9) rfl rfl Try.func59 (by kernel_rfl) rfl #[.pointer (some ⟨g, 0, none⟩)] rfl zao3 ?_; (with_reducible refine (wire_Reader_Left.calls g x1000_1 x1001_1 t111 t112 t113 w0 _ ?side1 ?side2 A3.out).mono ?_); (case side1 => exact zao0); (case side2 => exact zao1); rintro e w5 ⟨rfl, hi, hb, hk⟩; refine ⟨_, rfl, ?_⟩; have n0_ := Aside0.mk (KeepBut.trans zao2 hk (.inl rfl)); have n1_ := Aside0.mk (hb); have n2_ := Aside0.mk (hi); clear HK; clear HB; clear HI0; have HK := n0_; have HB := n1_; have HI0 := n2_; clear n0_ n1_ n2_; (try clear hb); (try clear hb2); (try clear hk); (try clear hi)))
       go_meet
       case rel => exact ⟨_, (decide (x4_1 < 10)), (t112), (t113), zao6, H', ⟨by have := HK1.out; first | omega | exact Nat.le_refl _⟩, ⟨zao0⟩, ⟨zao2⟩, ⟨zao1⟩⟩
     · rw [if_neg c4] at H
       have c4b0 : decide (x4_1 < t111) = false := decide_eq_false c4
       clear c4
       (first | rw [c4b0] | (simp only [i64_w, i32_w]; rw [c4b0]) | skip)
       have H' := Aside0.mk H
       clear H
       go_wp2_with (first | ((with_reducible refine gate_callee (f := 59) rfl ?_); refine goesL_ (some 9) rfl rfl Try.func59 (by kernel_rfl) rfl #[.pointer (some ⟨g, 0, none⟩)] rfl zao3 ?_; (with_reducible refine (wire_Reader_Left.calls g x1000_1 x1001_1 t111 t112 t113 w0 _ ?side1 ?side2 A3.out).mono ?_); (case side1 => exact zao0); (case side2 => exact zao1); rintro e w6 ⟨rfl, hi, hb, hk⟩; refine ⟨_, rfl, ?_⟩; have n0_ := Aside0.mk (KeepBut.trans zao2 hk (.inl rfl)); have n1_ := Aside0.mk (hb); have n2_ := Aside0.mk (hi); clear HK; clear HB; clear HI0; have HK := n0_; have HB := n1_; have HI0 := n2_; clear n0_ n1_ n2_; (try clear hb); (try clear hb2); (try clear hk); (try clear hi)))
       go_meet
       case rel => exact ⟨_, (false), (t112), (t113), zao6, H', ⟨by have := HK1.out; first | omega | exact Nat.le_refl _⟩, ⟨zao0⟩, ⟨zao2⟩, ⟨zao1⟩⟩
    case rest =>
     clear HC2
     try clear p2
     try clear c4
     try clear c4b0
     try clear c5
     obtain ⟨kq, x14_1, x1000_1, x1001_1, rfl, HA, HJ1, HI0, HK, HB⟩ := hcut
     cases kq with
     | zero => exact absurd HA.out (by simp [wire_Reader_Int.j1])
     | succ kj1 =>
       have H := HA.out
       clear HA
       simp only [wire_Reader_Int.j1] at H
       by_cases c7 : x14_1 = true
       · subst c7
         rw [if_pos rfl] at H
         by_cases c8 : 0 ≤ x4_1
         · rw [if_pos c8] at H
           have c8b0 : decide (0 ≤ x4_1) = true := decide_eq_true c8
           clear c8
           by_cases c9 : x4_1 < (x1000_1.size : Int)
           · rw [if_pos c9] at H
             have c9b0 : decide (x4_1 < (x1000_1.size : Int)) = true := decide_eq_true c9
             clear c9
             obtain ⟨ji11, hji11⟩ : ∃ j_ : Int, (wrap64 (7 * x4_1)) = j_ := ⟨_, rfl⟩
             replace H : (if 0 ≤ (ji11) then (if (bt x1000_1 x4_1) ≥ 128 then (wire_Reader_Int.l0 kj1 (Go.bits .or .u64 x3_1 (shl .u64 (IntKind.u64.wrap (Go.bits .and .u8 (bt x1000_1 x4_1) 127)) (ji11))) (wrap64 (x4_1 + 1)) x1000_1 x1001_1) else (if x4_1 > 0 then (if (bt x1000_1 x4_1) = 0 then (wire_Reader_Int.j2 kj1 (Go.bits .or .u64 x3_1 (shl .u64 (IntKind.u64.wrap (Go.bits .and .u8 (bt x1000_1 x4_1) 127)) (ji11))) x4_1 true x1000_1 x1001_1) else (if x4_1 = 9 then (wire_Reader_Int.j2 kj1 (Go.bits .or .u64 x3_1 (shl .u64 (IntKind.u64.wrap (Go.bits .and .u8 (bt x1000_1 x4_1) 127)) (ji11))) x4_1 (decide ((bt x1000_1 x4_1) > 1)) x1000_1 x1001_1) else (wire_Reader_Int.j2 kj1 (Go.bits .or .u64 x3_1 (shl .u64 (IntKind.u64.wrap (Go.bits .and .u8 (bt x1000_1 x4_1) 127)) (ji11))) x4_1 false x1000_1 x1001_1))) else (if x4_1 = 9 then (wire_Reader_Int.j2 kj1 (Go.bits .or .u64 x3_1 (shl .u64 (IntKind.u64.wrap (Go.bits .and .u8 (bt x1000_1 x4_1) 127)) (ji11))) x4_1 (decide ((bt x1000_1 x4_1) > 1)) x1000_1 x1001_1) else (wire_Reader_Int.j2 kj1 (Go.bits .or .u64 x3_1 (shl .u64 (IntKind.u64.wrap (Go.bits .and .u8 (bt x1000_1 x4_1) 127)) (ji11))) x4_1 false x1000_1 x1001_1)))) else (none)) = some (r1, r2, r3) := by first | (rw [hji11] at H; exact H) | (simp only [hji11] at H ⊢; exact H)
             have hji11w : (IntKind.i64.wrap (7 * x4_1)) = ji11 := (i64_w _).trans hji11
             by_cases c12 : 0 ≤ (ji11)
             · rw [if_pos c12] at H
               have c12b0 := eq_true c12
               have c12b1 : decide (0 ≤ (ji11)) = true := decide_eq_true c12
               clear c12
               obtain ⟨ji13, hji13⟩ : ∃ j_ : Int, (shl .u64 (IntKind.u64.wrap (Go.bits .and .u8 (bt x1000_1 x4_1) 127)) (ji11)) = j_ := ⟨_, rfl⟩
               replace H : (if (bt x1000_1 x4_1) ≥ 128 then (wire_Reader_Int.l0 kj1 (Go.bits .or .u64 x3_1 (ji13)) (wrap64 (x4_1 + 1)) x1000_1 x1001_1) else (if x4_1 > 0 then (if (bt x1000_1 x4_1) = 0 then (wire_Reader_Int.j2 kj1 (Go.bits .or .u64 x3_1 (ji13)) x4_1 true x1000_1 x1001_1) else (if x4_1 = 9 then (wire_Reader_Int.j2 kj1 (Go.bits .or .u64 x3_1 (ji13)) x4_1 (decide ((bt x1000_1 x4_1) > 1)) x1000_1 x1001_1) else (wire_Reader_Int.j2 kj1 (Go.bits .or .u64 x3_1 (ji13)) x4_1 false x1000_1 x1001_1))) else (if x4_1 = 9 then (wire_Reader_Int.j2 kj1 (Go.bits .or .u64 x3_1 (ji13)) x4_1 (decide ((bt x1000_1 x4_1) > 1)) x1000_1 x1001_1) else (wire_Reader_Int.j2 kj1 (Go.bits .or .u64 x3_1 (ji13)) x4_1 false x1000_1 x1001_1)))) = some (r1, r2, r3) := by first | (rw [hji13] at H; exact H) | (simp only [hji13] at H ⊢; exact H)
               have hji13_ : (IntKind.u64.wrap ((IntKind.u64.wrap (Go.bits .and .u8 (bt x1000_1 x4_1) 127)) * 2 ^ min (ji11).toNat 64)) = ji13 := hji13
               have hji13z : (ji11) ≤ 64 → (IntKind.u64.wrap ((IntKind.u64.wrap (Go.bits .and .u8 (bt x1000_1 x4_1) 127)) * 2 ^ (ji11).toNat)) = ji13 := shl_small hji13
               by_cases c14 : (bt x1000_1 x4_1) ≥ 128
               · rw [if_pos c14] at H
                 have c14b0 : decide (128 ≤ (bt x1000_1 x4_1)) = true := decide_eq_true c14
                 clear c14
                 have H' := Aside0.mk H
                 clear H
                 obtain ⟨HGz15, hgz15⟩ := HI0.out
                 have hcz15_0 := cellS161_0 HGz15
                 have hcz15_1 := cellS161_1 HGz15
                 have hfz15_0 := blk_frozen HGz15 0
                 have hfz15_1 := blk_frozen HGz15 1
                 clear HGz15 hgz15
                 have p10 : 0 ≤ (x4_1 : Int) := of_decide_eq_true zao9
                 have q10 : x4_1 < (x1000_1.size : Int) := of_decide_eq_true zao9
                 have hx10 := bt_at x1000_1 x4_1
                 replace p10 := eq_true p10
                 replace q10 := eq_true q10
                 go_wp2
                 go_roundg kj1
                 case measure => have := HK1.out; have := HJ1.out; omega
                 case rel => exact ⟨(Go.bits .or .u64 x3_1 (ji13)), (wrap64 (x4_1 + 1)), (x1000_1), (x1001_1), (by first | rfl | (simp; done) | (simp only [← hji13] <;> (first | rfl | simp)) | (simp [*]; done)), zao6, H', ⟨by have := HK1.out; have := HJ1.out; omega⟩, ⟨zao0⟩, ⟨zao2⟩, ⟨zao1⟩⟩
               · rw [if_neg c14] at H
                 have c14b0 : decide (128 ≤ (bt x1000_1 x4_1)) = false := decide_eq_false c14
                 clear c14
                 have HC16 := Aside0.mk H
                 clear H
                 obtain ⟨HGz17, hgz17⟩ := HI0.out
                 have hcz17_0 := cellS161_0 HGz17
                 have hcz17_1 := cellS161_1 HGz17
                 have hfz17_0 := blk_frozen HGz17 0
                 have hfz17_1 := blk_frozen HGz17 1
                 clear HGz17 hgz17
                 have p10 : 0 ≤ (x4_1 : Int) := of_decide_eq_true zao9
                 have q10 : x4_1 < (x1000_1.size : Int) := of_decide_eq_true zao9
                 have hx10 := bt_at x1000_1 x4_1
                 replace p10 := eq_true p10
                 replace q10 := eq_true q10
                 go_upto_region 8 with (fail)
                 go_cut [46] (fun v46 wc => ∃ (kq : Nat) (x46_15 : Bool), v46 = .bool x46_15 ∧ Aside0 (wire_Reader_Int.j2 kq (Go.bits .or .u64 x3_1 (ji13)) x4_1 x46_15 x1000_1 x1001_1 = some (r1, r2, r3)) ∧ Aside0 (kq ≤ kj1) ∧ Aside0 (IsS161 w0 wc g x1000_1 x1001_1) ∧ Aside0 (KeepBut w wc g none) ∧ Aside0 (Below w0.heap.size w0 wc))
                 case first =>
                  have H := HC16.out
                  clear HC16
                  by_cases c18 : x4_1 > 0
                  · rw [if_pos c18] at H
                    have c18b0 : decide (0 < x4_1) = true := decide_eq_true c18
                    clear c18
                    (first | rw [c18b0] | (simp only [i64_w, i32_w]; rw [c18b0]) | skip)
                    by_cases c19 : (bt x1000_1 x4_1) = 0
                    · rw [if_pos c19] at H
                      have c19b0 : ((bt x1000_1 x4_1) == 0) = true := beq_iff_eq.mpr c19
                      have c19b1 : ((bt x1000_1 x4_1) != 0) = false := bne_eq_false_iff_eq.mpr c19
                      clear c19
                      have H' := Aside0.mk H
                      clear H
                      go_wp2
                      go_meet
                      case rel => exact ⟨_, (true), zao6, H', ⟨zao7⟩, ⟨zao0⟩, ⟨zao2⟩, ⟨zao1⟩⟩
                    · rw [if_neg c19] at H
                      have c19b0 : ((bt x1000_1 x4_1) == 0) = false := beq_eq_false_iff_ne.mpr c19
                      have c19b1 : ((bt x1000_1 x4_1) != 0) = true := bne_iff_ne.mpr c19
                      by_cases c20 : x4_1 = 9
                      · rw [if_pos c20] at H
                        have c20b0 : (x4_1 == 9) = true := beq_iff_eq.mpr c20
                        have c20b1 : (x4_1 != 9) = false := bne_eq_false_iff_eq.mpr c20
                        clear c20
                        have H' := Aside0.mk H
                        clear H
                        go_wp2
                        go_meet
                        case rel => exact ⟨_, (decide ((bt x1000_1 x4_1) > 1)), zao6, H', ⟨zao7⟩, ⟨zao0⟩, ⟨zao2⟩, ⟨zao1⟩⟩
                      · rw [if_neg c20] at H
                        have c20b0 : (x4_1 == 9) = false := beq_eq_false_iff_ne.mpr c20
                        have c20b1 : (x4_1 != 9) = true := bne_iff_ne.mpr c20
                        have H' := Aside0.mk H
                        clear H
                        go_wp2
                        go_meet
                        case rel => exact ⟨_, (false), zao6, H', ⟨zao7⟩, ⟨zao0⟩, ⟨zao2⟩, ⟨zao1⟩⟩
                  · rw [if_neg c18] at H
                    have c18b0 : decide (0 < x4_1) = false := decide_eq_false c18
                    clear c18
                    (first | rw [c18b0] | (simp only [i64_w, i32_w]; rw [c18b0]) | skip)
                    by_cases c21 : x4_1 = 9
                    · rw [if_pos c21] at H
                      have c21b0 : (x4_1 == 9) = true := beq_iff_eq.mpr c21
                      have c21b1 : (x4_1 != 9) = false := bne_eq_false_iff_eq.mpr c21
                      clear c21
                      have H' := Aside0.mk H
                      clear H
                      go_wp2
                      go_meet
                      case rel => exact ⟨_, (decide ((bt x1000_1 x4_1) > 1)), zao6, H', ⟨zao7⟩, ⟨zao0⟩, ⟨zao2⟩, ⟨zao1⟩⟩
                    · rw [if_neg c21] at H
                      have c21b0 : (x4_1 == 9) = false := beq_eq_false_iff_ne.mpr c21
                      have c21b1 : (x4_1 != 9) = true := bne_iff_ne.mpr c21
                      have H' := Aside0.mk H
                      clear H
                      go_wp2
                      go_meet
                      case rel => exact ⟨_, (false), zao6, H', ⟨zao7⟩, ⟨zao0⟩, ⟨zao2⟩, ⟨zao1⟩⟩
                 case rest =>
                  clear HC16
                  try clear c1
                  try clear p1
                  try clear q1
                  try clear hx1
                  try clear c2
                  try clear p2
                  try clear c4
                  try clear c4b0
                  try clear c5
                  try clear p6
                  try clear c7
                  try clear c8
                  try clear c8b0
                  try clear c9
                  try clear c9b0
                  try clear p10
                  try clear q10
                  try clear hx10
                  try clear c12
                  try clear c12b0
                  try clear c12b1
                  try clear c14
                  try clear c14b0
                  try clear c18
                  try clear c18b0
                  try clear c19
                  try clear c19b0
                  try clear c19b1
                  try clear c20
                  try clear c20b0
                  try clear c20b1
                  try clear c21
                  try clear c21b0
                  try clear c21b1
                  try clear hcz15_0
                  try clear hcz15_1
                  try clear hcz17_0
                  try clear hcz17_1
                  try clear hfz15_0
                  try clear hfz15_1
                  try clear hfz17_0
                  try clear hfz17_1
                  try clear p10
                  try clear p2
                  try clear q10
                  obtain ⟨kq, x46_15, rfl, HA, HJ15, HI0, HK, HB⟩ := hcut
                  cases kq with
                  | zero => exact absurd HA.out (by simp [wire_Reader_Int.j2])
                  | succ kj15 =>
                    have H := HA.out
                    clear HA
                    simp only [wire_Reader_Int.j2] at H
                    by_cases c22 : x46_15 = true
                    · subst c22
                      rw [if_pos rfl] at H
                      replace H := Option.bind_eq_some_iff.mp H
                      obtain ⟨⟨t116, t117⟩, A230, H⟩ := H
                      try dsimp only at H
                      have A23 := Aside0.mk A230
                      clear A230
                      simp only [Option.some.injEq, Prod.mk.injEq] at H
                      obtain ⟨rfl, rfl, rfl⟩ := H
                      go_wp2_with (first | ((with_reducible refine gate_callee (f := 94) rfl ?_); refine goesL_ (some 67) rfl rfl Try.func94 (by kernel_rfl) rfl #[.pointer (some ⟨g, 0, none⟩)] rfl zao3 ?_; (with_reducible refine (wire_Reader_fail.calls g x1000_1 x1001_1 t116 t117 w0 _ ?side1 ?side2 A23.out).mono ?_); (case side1 => exact zao0); (case side2 => exact zao1); rintro e w24 ⟨rfl, hi, hb, hk⟩; refine ⟨_, rfl, ?_⟩; have n0_ := Aside0.mk (KeepBut.trans zao2 hk (.inl rfl)); have n1_ := Aside0.mk (hb); have n2_ := Aside0.mk (hi); clear HK; clear HB; clear HI0; have HK := n0_; have HB := n1_; have HI0 := n2_; clear n0_ n1_ n2_; (try clear hb); (try clear hb2); (try clear hk); (try clear hi)))
                      go_ret
                      exact ⟨by first | rfl | (simp [errW_none, errW_some] <;> rfl) | (simp only [← hji11, ← hji13]; first | rfl | (simp [errW_none, errW_some] <;> rfl)) | (simp [*, errW_none, errW_some] <;> rfl), zao0, zao1, zao2⟩
                    · replace c22 := Bool.eq_false_iff.mpr c22
                      subst c22
                      rw [if_neg (show ¬ (false = true) by decide)] at H
                      obtain ⟨ji25, hji25⟩ : ∃ j_ : Int, (wrap64 (x4_1 + 1)) = j_ := ⟨_, rfl⟩
                      replace H : (if 0 ≤ (ji25) then (if (ji25) ≤ (x1000_1.size : Int) then (if (Go.bits .and .u64 (Go.bits .or .u64 x3_1 (ji13)) 1) = 1 then (some (Go.bits .xor .i64 (-1) (wrap64 ((Go.bits .or .u64 x3_1 (ji13)) / 2)), x1000_1.extract ((ji25) : Int).toNat x1000_1.size, x1001_1)) else (some (wrap64 ((Go.bits .or .u64 x3_1 (ji13)) / 2), x1000_1.extract ((ji25) : Int).toNat x1000_1.size, x1001_1))) else (none)) else (none)) = some (r1, r2, r3) := by first | (rw [hji25] at H; exact H) | (simp only [hji25] at H ⊢; exact H)
                      have hji25w : (IntKind.i64.wrap (x4_1 + 1)) = ji25 := (i64_w _).trans hji25
                      by_cases c26 : 0 ≤ (ji25)
                      · rw [if_pos c26] at H
                        have c26b0 := eq_true c26
                        have c26b1 : decide (0 ≤ (ji25)) = true := decide_eq_true c26
                        clear c26
                        by_cases c27 : (ji25) ≤ (x1000_1.size : Int)
                        · rw [if_pos c27] at H
                          have c27b0 := eq_true c27
                          have c27b1 : decide ((ji25) ≤ (x1000_1.size : Int)) = true := decide_eq_true c27
                          clear c27
                          by_cases c28 : (Go.bits .and .u64 (Go.bits .or .u64 x3_1 (ji13)) 1) = 1
                          · rw [if_pos c28] at H
                            have c28b0 : ((Go.bits .and .u64 (Go.bits .or .u64 x3_1 (ji13)) 1) == 1) = true := beq_iff_eq.mpr c28
                            have c28b1 : ((Go.bits .and .u64 (Go.bits .or .u64 x3_1 (ji13)) 1) != 1) = false := bne_eq_false_iff_eq.mpr c28
                            clear c28
                            simp only [Option.some.injEq, Prod.mk.injEq] at H
                            obtain ⟨rfl, rfl, rfl⟩ := H
                            obtain ⟨HGz29, hgz29⟩ := HI0.out
                            have hcz29_0 := cellS161_0 HGz29
                            have hcz29_1 := cellS161_1 HGz29
                            have hfz29_0 := blk_frozen HGz29 0
                            have hfz29_1 := blk_frozen HGz29 1
                            clear HGz29 hgz29
                            go_wp2
                            go_ret
                            exact ⟨zao8, zao0, zao1, zao2⟩
                          · rw [if_neg c28] at H
                            have c28b0 : ((Go.bits .and .u64 (Go.bits .or .u64 x3_1 (ji13)) 1) == 1) = false := beq_eq_false_iff_ne.mpr c28
                            have c28b1 : ((Go.bits .and .u64 (Go.bits .or .u64 x3_1 (ji13)) 1) != 1) = true := bne_iff_ne.mpr c28
                            simp only [Option.some.injEq, Prod.mk.injEq] at H
                            obtain ⟨rfl, rfl, rfl⟩ := H
                            obtain ⟨HGz30, hgz30⟩ := HI0.out
                            have hcz30_0 := cellS161_0 HGz30
                            have hcz30_1 := cellS161_1 HGz30
                            have hfz30_0 := blk_frozen HGz30 0
                            have hfz30_1 := blk_frozen HGz30 1
                            clear HGz30 hgz30
                            go_wp2
                            go_ret
                            exact ⟨zao8, zao0, zao1, zao2⟩
                        · rw [if_neg c27] at H
                          exact absurd H (by simp)
                      · rw [if_neg c26] at H
                        exact absurd H (by simp)
             · rw [if_neg c12] at H
               exact absurd H (by simp)
           · rw [if_neg c9] at H
             exact absurd H (by simp)
         · rw [if_neg c8] at H
           exact absurd H (by simp)
       · replace c7 := Bool.eq_false_iff.mpr c7
         subst c7
         rw [if_neg (show ¬ (false = true) by decide)] at H
         replace H := Option.bind_eq_some_iff.mp H
         obtain ⟨⟨t114, t115⟩, A310, H⟩ := H
         try dsimp only at H
         have A31 := Aside0.mk A310
         clear A310
         simp only [Option.some.injEq, Prod.mk.injEq] at H
         obtain ⟨rfl, rfl, rfl⟩ := H
         go_wp2_with (first | ((with_reducible refine gate_callee (f := 94) rfl ?_); refine goesL_ (some 67) rfl rfl Try.func94 (by kernel_rfl) rfl #[.pointer (some ⟨g, 0, none⟩)] rfl zao3 ?_; (with_reducible refine (wire_Reader_fail.calls g x1000_1 x1001_1 t114 t115 w0 _ ?side1 ?side2 A31.out).mono ?_); (case side1 => exact zao0); (case side2 => exact zao1); rintro e w32 ⟨rfl, hi, hb, hk⟩; refine ⟨_, rfl, ?_⟩; have n0_ := Aside0.mk (KeepBut.trans zao2 hk (.inl rfl)); have n1_ := Aside0.mk (hb); have n2_ := Aside0.mk (hi); clear HK; clear HB; clear HI0; have HK := n0_; have HB := n1_; have HI0 := n2_; clear n0_ n1_ n2_; (try clear hb); (try clear hb2); (try clear hk); (try clear hi)))
         go_ret
         exact ⟨zao5, zao0, zao1, zao2⟩

def wire_Reader_length.f (k : Nat) (s0_0 : ByteArray) (s0_1 : Bool) : Option (Int × ByteArray × Bool) := (wire_Reader_Int.f k s0_0 s0_1).bind fun bt118 => (if bt118.1 < 0 then ((wire_Reader_fail.f bt118.2.1 bt118.2.2).bind fun bt121 => (some (0, bt121.1, bt121.2))) else ((wire_Reader_Left.f bt118.2.1 bt118.2.2).bind fun bt123 => (if bt118.1 > bt123.1 then ((wire_Reader_fail.f bt123.2.1 bt123.2.2).bind fun bt126 => (some (0, bt126.1, bt126.2))) else (some (bt118.1, bt123.2.1, bt123.2.2)))))
theorem wire_Reader_length.mono : ∀ a0 a1 k, LeO (wire_Reader_length.f k a0 a1) (wire_Reader_length.f (k + 1) a0 a1) := by
 intro a0 a1 k
 unfold wire_Reader_length.f
 repeat' first
 | (with_reducible exact wire_Reader_Int.mono _ _ _)
 | (with_reducible exact LeO.refl _)
 | (with_reducible exact LeO.none _)
 | (with_reducible refine LeO.ite ?_ ?_)
 | (with_reducible refine LeO.bind ?_ (fun _ => ?_))
 | exact wire_Reader_Int.mono _ _ _
 | exact LeO.none _
 | refine LeO.ite ?_ ?_
 | refine LeO.bind ?_ (fun _ => ?_)
set_option maxHeartbeats 8000000 in
set_option maxRecDepth 100000 in
theorem wire_Reader_length.calls (k : Nat) (g : Nat) (s0_0 : ByteArray) (s0_1 : Bool) (r1 : Int) (r2 : ByteArray) (r3 : Bool) (w0 w : World) (hI : IsS161 w0 w g s0_0 s0_1) (hB : Below w0.heap.size w0 w) (h : wire_Reader_length.f k s0_0 s0_1 = some (r1, r2, r3)) :
 Calls Try.prog 93 #[.pointer (some ⟨g, 0, none⟩)] w fun e w' => e = .returned (.int .i64 r1) ∧ IsS161 w0 w' g r2 r3 ∧ Below w0.heap.size w0 w' ∧ KeepBut w w' g none := by
 have HI0 := Aside0.mk hI
 have HK := Aside0.mk (KeepBut.refl w g none)
 have HL := Aside0.mk hB.size
 clear hI
 have HW0 := Aside0.mk hB.size
 have HB := Aside0.mk hB
 clear hB
 have H : ((wire_Reader_Int.f k s0_0 s0_1).bind fun bt118 => (if bt118.1 < 0 then ((wire_Reader_fail.f bt118.2.1 bt118.2.2).bind fun bt121 => (some (0, bt121.1, bt121.2))) else ((wire_Reader_Left.f bt118.2.1 bt118.2.2).bind fun bt123 => (if bt118.1 > bt123.1 then ((wire_Reader_fail.f bt123.2.1 bt123.2.2).bind fun bt126 => (some (0, bt126.1, bt126.2))) else (some (bt118.1, bt123.2.1, bt123.2.2)))))) = some (r1, r2, r3) := h
 clear h
 replace H := Option.bind_eq_some_iff.mp H
 obtain ⟨⟨t118, t119, t120⟩, A20, H⟩ := H
 try dsimp only at H
 have A2 := Aside0.mk A20
 clear A20
 by_cases c3 : t118 < 0
 · rw [if_pos c3] at H
   have c3b0 : decide (t118 < 0) = true := decide_eq_true c3
   clear c3
   replace H := Option.bind_eq_some_iff.mp H
   obtain ⟨⟨t121, t122⟩, A40, H⟩ := H
   try dsimp only at H
   have A4 := Aside0.mk A40
   clear A40
   simp only [Option.some.injEq, Prod.mk.injEq] at H
   obtain ⟨rfl, rfl, rfl⟩ := H
   go_enter Try.func93, Try.ntmps93
   go_wp2_with (first | ((with_reducible refine gate_callee (f := 57) rfl ?_); refine goesL_ (some 5) rfl rfl Try.func57 (by kernel_rfl) rfl #[.pointer (some ⟨g, 0, none⟩)] rfl zao3 ?_; (with_reducible refine (wire_Reader_Int.calls k g s0_0 s0_1 t118 t119 t120 w0 _ ?side1 ?side2 A2.out).mono ?_); (case side1 => exact zao0); (case side2 => exact zao1); rintro e w5 ⟨rfl, hi, hb, hk⟩; refine ⟨_, rfl, ?_⟩; have n0_ := Aside0.mk (KeepBut.trans zao2 hk (.inl rfl)); have n1_ := Aside0.mk (hb); have n2_ := Aside0.mk (hi); clear HK; clear HB; clear HI0; have HK := n0_; have HB := n1_; have HI0 := n2_; clear n0_ n1_ n2_; (try clear hb); (try clear hb2); (try clear hk); (try clear hi)) | ((with_reducible refine gate_callee (f := 94) rfl ?_); refine goesL_ (some 15) rfl rfl Try.func94 (by kernel_rfl) rfl #[.pointer (some ⟨g, 0, none⟩)] rfl zao3 ?_; (with_reducible refine (wire_Reader_fail.calls g t119 t120 t121 t122 w0 _ ?side1 ?side2 A4.out).mono ?_); (case side1 => exact zao0); (case side2 => exact zao1); rintro e w6 ⟨rfl, hi, hb, hk⟩; refine ⟨_, rfl, ?_⟩; have n0_ := Aside0.mk (KeepBut.trans zao2 hk (.inl rfl)); have n1_ := Aside0.mk (hb); have n2_ := Aside0.mk (hi); clear HK; clear HB; clear HI0; have HK := n0_; have HB := n1_; have HI0 := n2_; clear n0_ n1_ n2_; (try clear hb); (try clear hb2); (try clear hk); (try clear hi)))
   go_ret
   exact ⟨zao5, zao0, zao1, zao2⟩
 · rw [if_neg c3] at H
   have c3b0 : decide (t118 < 0) = false := decide_eq_false c3
   clear c3
   replace H := Option.bind_eq_some_iff.mp H
   obtain ⟨⟨t123, t124, t125⟩, A70, H⟩ := H
   try dsimp only at H
   have A7 := Aside0.mk A70
   clear A70
   by_cases c8 : t118 > t123
   · rw [if_pos c8] at H
     have c8b0 : decide (t123 < t118) = true := decide_eq_true c8
     clear c8
     replace H := Option.bind_eq_some_iff.mp H
     obtain ⟨⟨t126, t127⟩, A90, H⟩ := H
     try dsimp only at H
     have A9 := Aside0.mk A90
     clear A90
     simp only [Option.some.injEq, Prod.mk.injEq] at H
     obtain ⟨rfl, rfl, rfl⟩ := H
     go_enter Try.func93, Try.ntmps93
     go_wp2_with (first | ((with_reducible refine gate_callee (f := 57) rfl ?_); refine goesL_ (some 5) rfl rfl Try.func57 (by kernel_rfl) rfl #[.pointer (some ⟨g, 0, none⟩)] rfl zao3 ?_; (with_reducible refine (wire_Reader_Int.calls k g s0_0 s0_1 t118 t119 t120 w0 _ ?side1 ?side2 A2.out).mono ?_); (case side1 => exact zao0); (case side2 => exact zao1); rintro e w10 ⟨rfl, hi, hb, hk⟩; refine ⟨_, rfl, ?_⟩; have n0_ := Aside0.mk (KeepBut.trans zao2 hk (.inl rfl)); have n1_ := Aside0.mk (hb); have n2_ := Aside0.mk (hi); clear HK; clear HB; clear HI0; have HK := n0_; have HB := n1_; have HI0 := n2_; clear n0_ n1_ n2_; (try clear hb); (try clear hb2); (try clear hk); (try clear hi)) | (go_at_call 59; (with_reducible refine (wire_Reader_Left.calls g t119 t120 t123 t124 t125 w0 _ ?side1 ?side2 A7.out).mono ?_); (case side1 => exact zao0); (case side2 => exact zao1); rintro e w11 ⟨rfl, hi, hb, hk⟩; have n0_ := Aside0.mk (KeepBut.trans zao2 hk (.inl rfl)); have n1_ := Aside0.mk (hb); have n2_ := Aside0.mk (hi); clear HK; clear HB; clear HI0; have HK := n0_; have HB := n1_; have HI0 := n2_; clear n0_ n1_ n2_; (try clear hb); (try clear hb2); (try clear hk); (try clear hi)) | ((with_reducible refine gate_callee (f := 94) rfl ?_); refine goesL_ (some 15) rfl rfl Try.func94 (by kernel_rfl) rfl #[.pointer (some ⟨g, 0, none⟩)] rfl zao3 ?_; (with_reducible refine (wire_Reader_fail.calls g t124 t125 t126 t127 w0 _ ?side1 ?side2 A9.out).mono ?_); (case side1 => exact zao0); (case side2 => exact zao1); rintro e w12 ⟨rfl, hi, hb, hk⟩; refine ⟨_, rfl, ?_⟩; have n0_ := Aside0.mk (KeepBut.trans zao2 hk (.inl rfl)); have n1_ := Aside0.mk (hb); have n2_ := Aside0.mk (hi); clear HK; clear HB; clear HI0; have HK := n0_; have HB := n1_; have HI0 := n2_; clear n0_ n1_ n2_; (try clear hb); (try clear hb2); (try clear hk); (try clear hi)))
     go_ret
     exact ⟨zao5, zao0, zao1, zao2⟩
   · rw [if_neg c8] at H
     have c8b0 : decide (t123 < t118) = false := decide_eq_false c8
     clear c8
     simp only [Option.some.injEq, Prod.mk.injEq] at H
     obtain ⟨rfl, rfl, rfl⟩ := H
     go_enter Try.func93, Try.ntmps93
     go_wp2_with (first | ((with_reducible refine gate_callee (f := 57) rfl ?_); refine goesL_ (some 5) rfl rfl Try.func57 (by kernel_rfl) rfl #[.pointer (some ⟨g, 0, none⟩)] rfl zao3 ?_; (with_reducible refine (wire_Reader_Int.calls k g s0_0 s0_1 t118 t119 t120 w0 _ ?side1 ?side2 A2.out).mono ?_); (case side1 => exact zao0); (case side2 => exact zao1); rintro e w13 ⟨rfl, hi, hb, hk⟩; refine ⟨_, rfl, ?_⟩; have n0_ := Aside0.mk (KeepBut.trans zao2 hk (.inl rfl)); have n1_ := Aside0.mk (hb); have n2_ := Aside0.mk (hi); clear HK; clear HB; clear HI0; have HK := n0_; have HB := n1_; have HI0 := n2_; clear n0_ n1_ n2_; (try clear hb); (try clear hb2); (try clear hk); (try clear hi)) | (go_at_call 59; (with_reducible refine (wire_Reader_Left.calls g t119 t120 t123 t124 t125 w0 _ ?side1 ?side2 A7.out).mono ?_); (case side1 => exact zao0); (case side2 => exact zao1); rintro e w14 ⟨rfl, hi, hb, hk⟩; have n0_ := Aside0.mk (KeepBut.trans zao2 hk (.inl rfl)); have n1_ := Aside0.mk (hb); have n2_ := Aside0.mk (hi); clear HK; clear HB; clear HI0; have HK := n0_; have HB := n1_; have HI0 := n2_; clear n0_ n1_ n2_; (try clear hb); (try clear hb2); (try clear hk); (try clear hi)))
     go_ret
     exact ⟨zao5, zao0, zao1, zao2⟩

end Go.Proofs.Ythokkeljfdfppaa.Pb
