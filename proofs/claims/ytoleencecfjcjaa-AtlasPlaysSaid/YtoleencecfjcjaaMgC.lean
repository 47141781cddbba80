/- Several texts of this claim, one behind the other: AuA, AuB, AuC, AuD, Srt, AuE, AuF. -/
import Derived.Test.YtoleencecfjcjaaMgB
import Derived.WideMake
import Derived.Maps.RangeWalk
import Derived.Test.YtoleencecfjcjaaProg
import Derived.Shelf.SlSortCmp.Whole1
import Derived.Shelf.SlSortCmp.NoneTotal
import Derived.Test.YtoleencecfjcjaaMgP
/- An entry goes; an entry comes. -/
set_option linter.unusedVariables false
namespace Go.Proofs.Ytoleencecfjcjaa.At
open Go.RowKit Go.Proofs.YtoleencecfjcjaaW.PrintWords Go.Proofs.YtoleencecfjcjaaW.PrintLast Go.Proofs.Ytoleencecfjcjaa.Rng
theorem erase_mem {es : Array MapEntry} {j : Nat} {e : MapEntry} (h : e ∈ (es.eraseIdxIfInBounds j).toList) : e ∈ es.toList := by
  unfold Array.eraseIdxIfInBounds at h
  split at h
  · simp only [Array.toList_eraseIdx] at h
    exact List.mem_of_mem_eraseIdx h
  · exact h
theorem erase_sub (es : Array MapEntry) (j : Nat) : (es.eraseIdxIfInBounds j).toList.Sublist es.toList := by
  unfold Array.eraseIdxIfInBounds
  split
  · simp only [Array.toList_eraseIdx]
    exact List.eraseIdx_sublist _ _
  · exact List.Sublist.refl _
theorem Inv.tail {W H : Int} {e : En} {L : List En} (h : Inv W H (e :: L)) : Inv W H L where
  names := (List.pairwise_cons.1 h.names).2
  right := fun x hx => h.right x (List.mem_cons_of_mem _ hx)
  rect := fun x hx => h.rect x (List.mem_cons_of_mem _ hx)
  apart := (List.pairwise_cons.1 h.apart).2
theorem AtI.pop {w w' : World} {g W H N : Nat} {x : Ex} {l : List Ex} {gp gt b cp ct clk : Nat} {PX TK : List Nat} {px tk : Nat → Nat → Bool} {es : Array MapEntry} {mc : Nat} (h : AtI w g W H N (x :: l) gp gt b cp ct clk PX TK px tk es mc) {X Y CW CH : Nat} (hr : x.e.r = ⟨(X : Int), (Y : Int), (CW : Int), (CH : Int)⟩)
    {j : Nat} {m : MapEntry} (hj : es.toList[j]? = some m) (hk : m.key = .string x.e.nm) (hv : m.val = .pointer (some ⟨x.p, 0, none⟩)) (hb : w'.heap[b]? = some (.map (es.eraseIdxIfInBounds j) mc)) (hT : Rows TK W (setR tk X Y CW CH (fun _ _ => false)) w') (hs : Step (fun k => k ∈ TK ∨ k = b) w w') :
    AtI w' g W H N l gp gt b cp ct clk PX TK px (setR tk X Y CW CH (fun _ _ => false)) (es.eraseIdxIfInBounds j) mc := by
  obtain ⟨⟨a1, a2, a3, a4, a5, a6⟩, a7, a8, a9, a10, a11, a12, a13, a14, a15⟩ := h.ne
  have sm : ∀ k, k < w.heap.size → (k ∉ TK) → k ≠ b → w'.heap[k]? = w.heap[k]? := fun k hk a1 a2 => hs.1.2 k hk (fun e => by rcases e with e | e <;> contradiction)
  have hPl : ∀ p ∈ PX, p < w.heap.size := fun p hp => by
    obtain ⟨k, hk⟩ := List.getElem?_of_mem hp
    exact lt_of_blk (h.rp k p hk)
  exact
  { hW := h.hW
    hH := h.hH
    blk := (sm g (lt_of_blk h.blk) (fun e => (a8 g e).1 rfl) (fun e => a3 e.symm)).trans h.blk
    lp := h.lp
    lt := h.lt
    bp := Nat.lt_of_lt_of_le h.bp hs.size
    bt := Nat.lt_of_lt_of_le h.bt hs.size
    op := h.op.same (sm gp h.bp (fun e => (a8 gp e).2.1 rfl) a5)
    ot := h.ot.same (sm gt h.bt (fun e => (a8 gt e).2.2.1 rfl) a6)
    rp := h.rp.same (fun p hp => sm p (hPl p hp) (fun e => a10 p hp p e rfl) (a7 p hp).2.2.2)
    rt := hT
    map := hb
    ents := h.ents.del hj hk hv
    born := fun e he => h.born e (erase_mem he)
    bnd := h.bnd.sublist ((erase_sub es j).map _)
    ent := fun y hy => (sm y.p (lt_of_blk (h.ent y (List.mem_cons_of_mem _ hy))) (fun e => a12 y.p e y (List.mem_cons_of_mem _ hy) rfl) (a9 y (List.mem_cons_of_mem _ hy)).2.2.2).trans (h.ent y (List.mem_cons_of_mem _ hy))
    nd := h.nd.sublist (by
      refine List.Sublist.cons_cons _ (List.Sublist.cons_cons _ (List.Sublist.cons_cons _ (List.Sublist.cons_cons _ (List.Sublist.append (List.Sublist.refl _) ?_))))
      exact List.sublist_cons_self _ _)
    used := (List.pairwise_cons.1 h.used).2
    le := fun y hy => h.le y (List.mem_cons_of_mem _ hy)
    inv := h.inv.tail
    taken := by
      have h1 : Taken W H tk (x.e :: l.map Ex.e) := fun x1 y1 b1 b2 => by
        rw [h.taken x1 y1 b1 b2, List.any_cons, List.any_cons, List.any_map]
        rfl
      have h2 := h1.del hr (fun e' he' => (List.pairwise_cons.1 h.inv.apart).1 e' he')
      intro x1 y1 b1 b2
      rw [h2 x1 y1 b1 b2, List.any_map]
      rfl
    pix := fun y hy => h.pix y (List.mem_cons_of_mem _ hy)
    len := fun y hy => h.len y (List.mem_cons_of_mem _ hy)
    clk := h.clk }
theorem AtI.push {w w' : World} {g W H N : Nat} {l : List Ex} {gp gt b cp ct clk : Nat} {PX TK : List Nat} {px tk : Nat → Nat → Bool} {es : Array MapEntry} {mc : Nat} (h : AtI w g W H N l gp gt b cp ct clk PX TK px tk es mc) (x : Ex) (hus : x.us = clk + 1) {X Y CW CH : Nat} (hr : x.e.r = ⟨(X : Int), (Y : Int), (CW : Int), (CH : Int)⟩) (hcw : x.e.b.w = (CW : Int)) (hrl : x.e.b.rows.length = CH) (bf : Nat → Nat → Bool) (hbf : ∀ k q, x.e.b.rows[k]? = some q → ∀ i, i < CW → bf k i = q.toNat.testBit i)
    (hnew : x.p ∉ blksOf g gp gt b PX TK l) (hinv : Inv W H ((l ++ [x]).map Ex.e)) (hlen : x.e.nm.size ≤ 9223372036854775807)
    (hg : w'.heap[g]? = some (.cells #[.int .i64 (W : Int), .int .i64 (H : Int), .slice (some ⟨gp, 0, none⟩) H cp, .slice (some ⟨gt, 0, none⟩) H ct, .map (some b), .int .i64 ((clk + 1 : Nat) : Int)] 64 (0, 0)))
    (hb : w'.heap[b]? = some (.map (es.push ⟨.string x.e.nm, .pointer (some ⟨x.p, 0, none⟩), mc⟩) (mc + 1))) (he : w'.heap[x.p]? = some (.cells x.cells 94 (0, 0)))
    (hT : Rows TK W (setR tk X Y CW CH (fun _ _ => true)) w') (hP : Rows PX W (setR px X Y CW CH bf) w') (hs : Step (fun k => k = g ∨ k = b ∨ k ∈ PX ∨ k ∈ TK ∨ k = x.p) w w') :
    AtI w' g W H (N + 1) (l ++ [x]) gp gt b cp ct (clk + 1) PX TK (setR px X Y CW CH bf) (setR tk X Y CW CH (fun _ _ => true)) (es.push ⟨.string x.e.nm, .pointer (some ⟨x.p, 0, none⟩), mc⟩) (mc + 1) := by
  obtain ⟨⟨a1, a2, a3, a4, a5, a6⟩, a7, a8, a9, a10, a11, a12, a13, a14, a15⟩ := h.ne
  simp only [blksOf, List.mem_cons, List.mem_append, not_or] at hnew
  obtain ⟨n1, n2, n3, n4, ⟨n5, n6⟩, n7⟩ := hnew
  have sm : ∀ k, k < w.heap.size → k ≠ g → k ≠ b → k ∉ PX → k ∉ TK → k ≠ x.p → w'.heap[k]? = w.heap[k]? := fun k hk b1 b2 b3 b4 b5 => hs.1.2 k hk (fun e => by rcases e with e | e | e | e | e <;> contradiction)
  have hap : ∀ e' ∈ l, over x.e.r e'.e.r = false := fun e' he' => by
    have := hinv.apart
    rw [List.map_append, List.pairwise_append] at this
    rw [over_comm]
    exact this.2.2 e'.e (List.mem_map.2 ⟨e', he', rfl⟩) x.e (by simp)
  exact
  { hW := h.hW
    hH := h.hH
    blk := hg
    lp := h.lp
    lt := h.lt
    bp := Nat.lt_of_lt_of_le h.bp hs.size
    bt := Nat.lt_of_lt_of_le h.bt hs.size
    op := h.op.same (sm gp h.bp a1 a5 (fun e => (a7 gp e).2.1 rfl) (fun e => (a8 gp e).2.1 rfl) (fun e => n2 e.symm))
    ot := h.ot.same (sm gt h.bt a2 a6 (fun e => (a7 gt e).2.2.1 rfl) (fun e => (a8 gt e).2.2.1 rfl) (fun e => n3 e.symm))
    rp := hP
    rt := hT
    map := hb
    ents := h.ents.push x mc
    born := fun e he => by
      rw [Array.toList_push] at he
      rcases List.mem_append.1 he with he | he
      · have := h.born e he; omega
      · rw [List.mem_singleton.1 he]; exact Nat.lt_succ_self _
    bnd := by
      rw [Array.toList_push, List.map_append, List.nodup_append]
      refine ⟨h.bnd, by simp, fun a ha c hc => ?_⟩
      simp only [List.map_cons, List.map_nil, List.mem_singleton] at hc
      obtain ⟨e, he, rfl⟩ := List.mem_map.1 ha
      have := h.born e he
      omega
    ent := fun y hy => by
      rcases List.mem_append.1 hy with hy | hy
      · exact (sm y.p (lt_of_blk (h.ent y hy)) (a9 y hy).1 (a9 y hy).2.2.2 (fun e => a11 _ e y hy rfl) (fun e => a12 _ e y hy rfl) (fun e => n7 (e ▸ List.mem_map.2 ⟨y, hy, rfl⟩))).trans (h.ent y hy)
      · rw [List.mem_singleton.1 hy]; exact he
    nd := by
      have h1 : (x.p :: (g :: gp :: gt :: b :: (PX ++ TK ++ l.map Ex.p))).Nodup := List.nodup_cons.2 ⟨by simp only [List.mem_cons, List.mem_append, not_or]; exact ⟨n1, n2, n3, n4, ⟨n5, n6⟩, n7⟩, h.nd⟩
      refine (List.Perm.nodup_iff ?_).1 h1
      rw [List.map_append]
      exact (List.perm_append_singleton x.p (g :: gp :: gt :: b :: (PX ++ TK ++ l.map Ex.p))).symm.trans (by simp)
    used := by
      rw [List.pairwise_append]
      refine ⟨h.used, List.pairwise_singleton _ _, fun a ha c hc => ?_⟩
      obtain rfl := List.mem_singleton.1 hc
      have := h.le a ha
      omega
    le := fun y hy => by
      rcases List.mem_append.1 hy with hy | hy
      · have := h.le y hy; omega
      · rw [List.mem_singleton.1 hy]; omega
    inv := hinv
    taken := by
      have h1 : Taken W H tk (l.map Ex.e) := fun x1 y1 b1 b2 => by
        rw [h.taken x1 y1 b1 b2, List.any_map]
        rfl
      have h2 := h1.add (e := x.e) hr
      intro x1 y1 b1 b2
      rw [h2 x1 y1 b1 b2, List.any_append, List.any_append, List.any_map]
      rfl
    pix := fun y hy k q hk i hi => by
      rcases List.mem_append.1 hy with hy | hy
      · obtain ⟨X1, Y1, W1, H1, hr1, hw1, hh1, _, _, _, _, _, hl1, _⟩ := h.inv.dims (List.mem_map.2 ⟨y, hy, rfl⟩)
        have ho := hap y hy
        rw [hr] at ho
        have hk1 : k < H1 := by rw [← hl1]; exact (List.getElem?_eq_some_iff.1 hk).1
        have h3 := pix_keep px X Y CW CH bf (r := y.e.r) (k := k) (i := i) (by rw [hr1]; exact Int.natCast_nonneg _) (by rw [hr1]; exact Int.natCast_nonneg _) ho (by rw [hr1]; exact Int.ofNat_lt.2 hk1) hi
        rw [h3]
        exact h.pix y hy k q hk i hi
      · rw [List.mem_singleton.1 hy] at hk hi ⊢
        rw [hr] at hi ⊢
        have hi' : i < CW := Int.ofNat_lt.1 hi
        have hk1 : k < CH := by rw [← hrl]; exact (List.getElem?_eq_some_iff.1 hk).1
        rw [← hbf k q hk i hi']
        exact pix_new px X Y CW CH bf hk1 hi'
    len := fun y hy => by
      rcases List.mem_append.1 hy with hy | hy
      · exact h.len y hy
      · rw [List.mem_singleton.1 hy]; exact hlen
    clk := Nat.succ_le_succ h.clk }
/-- The invariant, when an entry comes. -/
theorem Inv.push {W H : Nat} {L : List En} (h : Inv W H L) (e : En) (hn : getP L e.nm = none) (hr : rightB e.b = true) (h0 : ∀ r ∈ e.b.rows, 0 ≤ r) (hc : (e.b.w = 0 ∧ e.r = r0) ∨ (1 ≤ e.b.w ∧ ∃ h1, placeP L W H e.b.w h1 = some e.r ∧ h1 = e.b.h)) : Inv W H (L ++ [e]) := by
  have hrect : (e.b.w = 0 ∧ e.r = r0) ∨ (1 ≤ e.b.w ∧ e.r.w = e.b.w ∧ e.r.h = e.b.h ∧ 0 ≤ e.r.x ∧ e.r.x + e.r.w ≤ W ∧ 0 ≤ e.r.y ∧ e.r.y + e.r.h ≤ H) := by
    rcases hc with hc | ⟨h1, hh, h2, rfl⟩
    · exact .inl hc
    · obtain ⟨b1, b2, b3, b4, b5, b6, b7⟩ := placeP_some h2
      exact .inr ⟨h1, b1, b2, b3, by omega, b5, by omega⟩
  have hfree : ∀ e' ∈ L, over e.r e'.r = false := by
    rcases hc with ⟨_, hc⟩ | ⟨h1, hh, h2, rfl⟩
    · intro e' he'
      obtain ⟨X1, Y1, W1, H1, hr1, _⟩ := h.dims he'
      rw [hc, hr1]
      refine decide_eq_false (fun hh => ?_)
      simp only [r0] at hh
      omega
    · intro e' he'
      have := (placeP_some h2).2.2.2.2.2.2
      have := List.all_eq_true.1 this e' he'
      simpa using this
  refine ⟨?_, fun x hx => ?_, fun x hx => ?_, ?_⟩
  · rw [List.pairwise_append]
    refine ⟨h.names, List.pairwise_singleton _ _, fun a ha c hc => ?_⟩
    obtain rfl := List.mem_singleton.1 hc
    unfold getP at hn
    have := List.find?_eq_none.1 hn a ha
    simpa using this
  · rcases List.mem_append.1 hx with hx | hx
    · exact h.right x hx
    · rw [List.mem_singleton.1 hx]; exact ⟨hr, h0⟩
  · rcases List.mem_append.1 hx with hx | hx
    · exact h.rect x hx
    · rw [List.mem_singleton.1 hx]; exact hrect
  · rw [List.pairwise_append]
    refine ⟨h.apart, List.pairwise_singleton _ _, fun a ha c hc => ?_⟩
    obtain rfl := List.mem_singleton.1 hc
    rw [over_comm]
    exact hfree a ha
end Go.Proofs.Ytoleencecfjcjaa.At

/- New: what is there while the rows are made. -/
set_option linter.unusedVariables false
set_option linter.unusedSimpArgs false
namespace Go.Proofs.Ytoleencecfjcjaa.At
open Go.RowKit Go.Proofs.YtoleencecfjcjaaW.PrintWords Go.Proofs.YtoleencecfjcjaaW.PrintLast Go.Proofs.Ytoleencecfjcjaa.Rng
/-- Rows of an area, by their blocks. -/
def kP (W : Nat) : Kd Nat where
  sz := 1
  E := []
  K := fun _ p cs => cs = [.slice (some ⟨p, 0, none⟩) W W]
  M := fun _ _ _ p cs => cs = [.slice (some ⟨p, 0, none⟩) W W]
  K_len := by rintro w x cs rfl; rfl
  K_one := by
    rintro w x cs rfl u hu
    simp at hu
    subst hu
    rfl
  K_below := fun _ h => h
  K_of_M := fun h => h
  M_mono := fun _ h => h
  M_bound := fun h => h
  M_move := fun _ h => h
  M_lower := fun _ h => h
theorem undBB : Try.prog.underlying 61 = some (.slice 79) := by kernel_rfl
theorem infoBB (W : Nat) : (Try.prog.info? 79).map (fun i => (i.zero, i.size, i.bytes)) = some (some (.slice none 0 0), (kP W).sz, 24) := by show _ = some (some (Value.slice none 0 0), 1, 24); kernel_rfl
theorem boolsA_made (W : Nat) : madeCells #[.bool false] W = boolsA W (fun _ => false) := by
  apply Array.ext_getElem?
  intro j
  by_cases h : j < W
  · rw [boolsA_get _ _ _ h]
    simp [madeCells, h, Nat.mod_one]
  · simp [madeCells, boolsA, h]
section
variable {P : Program} {ops : Array Oper} {o : Oper} {a : Act} {Q : Exit → Act → World → Prop} {Kc : Act → World → Prop}
/-- An append of one element whose literal lies anywhere. -/
theorem append_at_step {α : Type} (d : Kd α) {W : World} (base : Nat) (hw : Region.wanted o (yielded ops a.tmps) = true) (s x : Operand) (t e : TypeId) (z : Value) (bytes : Nat)
    (ho : o.op = .call { callee := .builtin .append, args := #[s, x], argTypes := #[t, t] })
    (ht : P.underlying t = some (.slice e)) (hinfo : (P.info? e).map (fun i => (i.zero, i.size, i.bytes)) = some (some z, d.sz, bytes)) (hz : z.cells.size = d.sz) (hs0 : 0 < d.sz) (hb0 : 0 < bytes)
    (v : Value) (xs : List α) (p : α) (cs : List Value) (q : Nat) (ok okp : Nat → Prop) (hs : a.eval s = v) (hx : a.eval x = .slice (some ⟨q, 0, none⟩) 1 1) (hp : d.M W base okp p cs) (hokp : ∀ k, okp k → ok k ∧ some k ≠ v.ownBlock) (hfresh : ∀ k, W.heap.size ≤ k → ok k)
    (hq : W.heap[q]? = some (.cells cs.toArray e (0, 0))) (HO : d.R e W base ok v xs) (hbase : base ≤ W.heap.size) (hl : (xs.length + 1) * bytes ≤ 140737488355328)
    (h : ∀ v1 w1, d.R e w1 base ok v1 (xs ++ [p]) → W.grownBy w1 v.ownBlock → (v1.ownBlock = v.ownBlock ∨ ∃ b, v1.ownBlock = some b ∧ W.heap.size ≤ b) → Kc (a.put o.dst v1) w1) :
    if Region.wanted o (yielded ops a.tmps) = true then Oper.wp P o a W Kc Q else Kc (a.put o.dst undef) W := by
  obtain ⟨h0, inner, hown, hr⟩ := HO
  obtain ⟨i0, hi, hzz⟩ := Option.map_eq_some_iff.1 hinfo
  simp only [Prod.mk.injEq] at hzz
  obtain ⟨hz0, hz1, hz2⟩ := hzz
  have hcl := d.K_len (d.K_of_M hp)
  have hlen : xs.length + 1 ≤ 140737488355328 := Nat.le_trans (Nat.le_mul_of_pos_right _ hb0) hl
  obtain ⟨v1, w1, hrun, r1, r2, _, hat⟩ := run_append_own_at (P := P) (w := W) base t o.type e i0 z d.sz bytes ht hi hz0 hz1 hz2 hz hs0 v xs.length inner hown ⟨q, 0, none⟩ 1 1 cs (by rw [hcl]; simp)
    (by simpa using World.news_of_block (cs := cs.toArray) (t := e) (fr := (0, 0)) hq) (d.K_one (d.K_of_M hp)) (by simp only [maxLen]; omega) hl hbase
  have hat1 : v1.ownBlock = v.ownBlock ∨ ∃ b, v1.ownBlock = some b ∧ W.heap.size ≤ b := by
    rcases hat with hat | hat
    · exact .inl hat
    · exact .inr ⟨_, hat, Nat.le_refl _⟩
  rw [if_pos hw]
  unfold Oper.wp execOp
  simp only [ho, resolve, invoke, builtin, Sem.run_bind, Sem.run_pure, Result.andThen_ok, List.map_toArray, List.map_cons, List.map_nil, hs, hx, hrun]
  exact h v1 w1 (Kd.R_appended h0 hr hp hokp hfresh r1 r2 hat1) r2 hat1
end
theorem R_own {W e base : Nat} {w w1 : World} {v : Value} {xs : List Nat} (h : Kd.R (kP W) e w base (fun _ => True) v xs) (hm : ∀ k, v.ownBlock = some k → w1.heap[k]? = w.heap[k]?) : Kd.R (kP W) e w1 base (fun _ => True) v xs :=
  Kd.R_mono (Kd.R_move (Kd.R_tight rfl h) (fun k hk => hm k hk.symm)) (fun _ _ => trivial)
structure NwI (w : World) (g b W H : Nat) (c1 c2 v1 v2 : Value) (P T E : List Nat) (w' : World) : Prop where
  lo : Below w.heap.size w w'
  blk : w'.heap[g]? = some (.cells #[.int .i64 (W : Int), .int .i64 (H : Int), c1, c2, .map (some b), .int .i64 0] 64 (0, 0))
  map : w'.heap[b]? = some (.map #[] 0)
  gb : w.heap.size ≤ g ∧ w.heap.size ≤ b
  r1 : Kd.R (kP W) 79 w' w.heap.size (fun _ => True) v1 P
  r2 : Kd.R (kP W) 79 w' w.heap.size (fun _ => True) v2 T
  ap : ∀ k, v1.ownBlock = some k → v2.ownBlock ≠ some k
  nd : (P ++ T ++ E).Nodup
  bl : ∀ p ∈ P ++ T ++ E, w.heap.size ≤ p ∧ w'.heap[p]? = some (.cells (boolsA W (fun _ => false)) 4 (0, 0))
def Lit (W : Nat) (v1 v2 : Value) (q a : Nat) (w' : World) : Prop := w'.heap[q]? = some (.cells #[.slice (some ⟨a, 0, none⟩) W W] 79 (0, 0)) ∧ v1.ownBlock ≠ some q ∧ v2.ownBlock ≠ some q
section
variable {w : World} {g b W H : Nat} {c1 c2 v1 v2 : Value} {P T E : List Nat} {w' : World}
theorem own_blk {α : Type} {d : Kd α} {e : Nat} {w : World} {base : Nat} {ok : Nat → Prop} {v : Value} {xs : List α} (h : d.R e w base ok v xs) {k : Nat} (hk : v.ownBlock = some k) : base ≤ k ∧ ∃ cells, w.heap[k]? = some (.cells cells e (0, 0)) := by
  obtain ⟨_, inner, ho, _⟩ := h
  refine ⟨?_, own_typed ho k hk⟩
  rcases ho.2 with ⟨rfl, _⟩ | ⟨g, cap, cur, rfl, hg, hh, r⟩
  · simp [Value.ownBlock] at hk
  · have : g = k := by simpa [Value.ownBlock] using hk
    omega
theorem NwI.alloc (h : NwI w g b W H c1 c2 v1 v2 P T E w') (o : Obj) : NwI w g b W H c1 c2 v1 v2 P T E (w'.alloc o) :=
  have hB : Below w'.heap.size w' (w'.alloc o) := below_alloc (Below.refl _ _) o
  { lo := below_alloc h.lo o
    blk := blk_alloc h.blk o
    map := blk_alloc h.map o
    gb := h.gb
    r1 := Kd.R_below h.r1 hB
    r2 := Kd.R_below h.r2 hB
    ap := h.ap
    nd := h.nd
    bl := fun p hp => ⟨(h.bl p hp).1, blk_alloc (h.bl p hp).2 o⟩ }
theorem NwI.mk' (h : NwI w g b W H c1 c2 v1 v2 P T E w') {E' : List Nat} (hE : E'.Perm (w'.heap.size :: E)) : NwI w g b W H c1 c2 v1 v2 P T E' (w'.alloc (.cells (boolsA W (fun _ => false)) 4 (0, 0))) :=
  { h.alloc (.cells (boolsA W (fun _ => false)) 4 (0, 0)) with
    nd := by
      have h1 : (P ++ T ++ E').Perm (w'.heap.size :: (P ++ T ++ E)) := (hE.append_left (P ++ T)).trans List.perm_middle
      refine h1.nodup_iff.2 (List.nodup_cons.2 ⟨fun e => ?_, h.nd⟩)
      exact Nat.lt_irrefl _ (lt_of_blk (h.bl _ e).2)
    bl := fun p hp => by
      have h1 : (P ++ T ++ E').Perm (w'.heap.size :: (P ++ T ++ E)) := (hE.append_left (P ++ T)).trans List.perm_middle
      rcases List.mem_cons.1 (h1.mem_iff.1 hp) with rfl | hp
      · exact ⟨h.lo.size, blk_new _ _⟩
      · exact ⟨(h.bl p hp).1, blk_alloc (h.bl p hp).2 _⟩ }
theorem Lit.alloc {q a : Nat} (h : Lit W v1 v2 q a w') (o : Obj) : Lit W v1 v2 q a (w'.alloc o) := ⟨blk_alloc h.1 o, h.2⟩
theorem NwI.lit (h : NwI w g b W H c1 c2 v1 v2 P T E w') (a : Nat) : Lit W v1 v2 w'.heap.size a (w'.alloc (.cells #[.slice (some ⟨a, 0, none⟩) W W] 79 (0, 0))) :=
  ⟨blk_new _ _, fun e => by obtain ⟨_, cs, h1⟩ := own_blk h.r1 e; exact Nat.lt_irrefl _ (lt_of_blk h1), fun e => by obtain ⟨_, cs, h1⟩ := own_blk h.r2 e; exact Nat.lt_irrefl _ (lt_of_blk h1)⟩
theorem own_ne {α : Type} {d : Kd α} {base : Nat} {ok : Nat → Prop} {v : Value} {xs : List α} (h : d.R 79 w' base ok v xs) {k : Nat} {cs : Array Value} {e : Nat} (hk : w'.heap[k]? = some (.cells cs e (0, 0))) (he : e ≠ 79) : some k ≠ v.ownBlock := fun e1 => by
  obtain ⟨_, c2, h1⟩ := own_blk h e1.symm
  rw [hk] at h1
  injection h1 with h1
  injection h1 with _ h1
  exact he h1
theorem own_ne_map {α : Type} {d : Kd α} {base : Nat} {ok : Nat → Prop} {v : Value} {xs : List α} (h : d.R 79 w' base ok v xs) {k : Nat} {es : Array MapEntry} {mc : Nat} (hk : w'.heap[k]? = some (.map es mc)) : some k ≠ v.ownBlock := fun e1 => by
  obtain ⟨_, c2, h1⟩ := own_blk h e1.symm
  rw [hk] at h1
  injection h1 with h1
  cases h1
theorem nd_move {P T E E' : List Nat} {a : Nat} (h : E.Perm (a :: E')) : (P ++ T ++ E).Perm (P ++ [a] ++ T ++ E') := by
  have h1 : (P ++ T ++ E).Perm (a :: (P ++ T ++ E')) := (h.append_left (P ++ T)).trans List.perm_middle
  refine h1.trans ?_
  rw [List.append_assoc P T E', List.append_assoc P [a] T, List.append_assoc P, List.singleton_append, List.cons_append]
  exact List.perm_middle.symm
theorem nd_move2 {P T E E' : List Nat} {a : Nat} (h : E.Perm (a :: E')) : (P ++ T ++ E).Perm (P ++ (T ++ [a]) ++ E') := by
  refine (h.append_left (P ++ T)).trans ?_
  rw [← List.append_assoc P T [a], List.append_assoc (P ++ T) [a] E', List.singleton_append]
/-- The first row has one more element. -/
theorem NwI.app1 (h : NwI w g b W H c1 c2 v1 v2 P T E w') {a : Nat} {E' : List Nat} (hE : E.Perm (a :: E')) {v' : Value} {w1 : World} (hR : Kd.R (kP W) 79 w1 w.heap.size (fun _ => True) v' (P ++ [a])) (hg : w'.grownBy w1 v1.ownBlock) (hat : v'.ownBlock = v1.ownBlock ∨ ∃ b, v'.ownBlock = some b ∧ w'.heap.size ≤ b) :
    NwI w g b W H c1 c2 v' v2 (P ++ [a]) T E' w1 :=
  have sm : ∀ k, k < w'.heap.size → some k ≠ v1.ownBlock → w1.heap[k]? = w'.heap[k]? := fun k h1 h2 => hg.block k h1 h2
  { lo := h.lo.grown hg h.lo.size (fun k hk => (own_blk h.r1 hk).1)
    blk := (sm g (lt_of_blk h.blk) (own_ne h.r1 h.blk (by decide))).trans h.blk
    map := (sm b (lt_of_blk h.map) (own_ne_map h.r1 h.map)).trans h.map
    gb := h.gb
    r1 := hR
    r2 := R_own h.r2 (fun k hk => sm k (by obtain ⟨_, _, h1⟩ := own_blk h.r2 hk; exact lt_of_blk h1) (fun e => h.ap k e.symm hk))
    ap := fun k hk e => by
      rcases hat with hat | ⟨c, hc, hle⟩
      · exact h.ap k (hat ▸ hk) e
      · rw [hc] at hk
        injection hk with hk
        obtain ⟨_, cs, h1⟩ := own_blk h.r2 e
        have := lt_of_blk h1
        omega
    nd := (nd_move hE).nodup_iff.1 h.nd
    bl := fun p hp => by
      have h1 := h.bl p ((nd_move hE).mem_iff.2 hp)
      exact ⟨h1.1, (sm p (lt_of_blk h1.2) (own_ne h.r1 h1.2 (by decide))).trans h1.2⟩ }
theorem NwI.app2 (h : NwI w g b W H c1 c2 v1 v2 P T E w') {a : Nat} {E' : List Nat} (hE : E.Perm (a :: E')) {v' : Value} {w1 : World} (hR : Kd.R (kP W) 79 w1 w.heap.size (fun _ => True) v' (T ++ [a])) (hg : w'.grownBy w1 v2.ownBlock) (hat : v'.ownBlock = v2.ownBlock ∨ ∃ b, v'.ownBlock = some b ∧ w'.heap.size ≤ b) :
    NwI w g b W H c1 c2 v1 v' P (T ++ [a]) E' w1 :=
  have sm : ∀ k, k < w'.heap.size → some k ≠ v2.ownBlock → w1.heap[k]? = w'.heap[k]? := fun k h1 h2 => hg.block k h1 h2
  { lo := h.lo.grown hg h.lo.size (fun k hk => (own_blk h.r2 hk).1)
    blk := (sm g (lt_of_blk h.blk) (own_ne h.r2 h.blk (by decide))).trans h.blk
    map := (sm b (lt_of_blk h.map) (own_ne_map h.r2 h.map)).trans h.map
    gb := h.gb
    r1 := R_own h.r1 (fun k hk => sm k (by obtain ⟨_, _, h1⟩ := own_blk h.r1 hk; exact lt_of_blk h1) (fun e => h.ap k hk e.symm))
    r2 := hR
    ap := fun k hk e => by
      rcases hat with hat | ⟨c, hc, hle⟩
      · exact h.ap k hk (hat ▸ e)
      · rw [hc] at e
        injection e with e
        obtain ⟨_, cs, h1⟩ := own_blk h.r1 hk
        have := lt_of_blk h1
        omega
    nd := (nd_move2 hE).nodup_iff.1 h.nd
    bl := fun p hp => by
      have h1 := h.bl p ((nd_move2 hE).mem_iff.2 hp)
      exact ⟨h1.1, (sm p (lt_of_blk h1.2) (own_ne h.r2 h1.2 (by decide))).trans h1.2⟩ }
theorem Lit.app1 {q a : Nat} (hl : Lit W v1 v2 q a w') {v' : Value} {w1 : World} (hg : w'.grownBy w1 v1.ownBlock) (hat : v'.ownBlock = v1.ownBlock ∨ ∃ b, v'.ownBlock = some b ∧ w'.heap.size ≤ b) : Lit W v' v2 q a w1 := by
  have hlt := lt_of_blk hl.1
  refine ⟨(hg.block q hlt (fun e => hl.2.1 e.symm)).trans hl.1, fun e => ?_, hl.2.2⟩
  rcases hat with hat | ⟨c, hc, hle⟩
  · exact hl.2.1 (hat ▸ e)
  · rw [hc] at e
    injection e with e
    omega
theorem NwI.set (h : NwI w g b W H c1 c2 v1 v2 P T E w') (j : Nat) (c : Value) {d1 d2 : Value} (he : (#[.int .i64 (W : Int), .int .i64 (H : Int), c1, c2, .map (some b), .int .i64 0] : Array Value).setIfInBounds j c = #[.int .i64 (W : Int), .int .i64 (H : Int), d1, d2, .map (some b), .int .i64 0]) : NwI w g b W H d1 d2 v1 v2 P T E (w'.setCell ⟨g, j, none⟩ c) := by
  have hs : Step (fun k => k = g) w' (w'.setCell ⟨g, j, none⟩ c) := (Step.refl (fun k => k = g) w').setCell (p := ⟨g, j, none⟩) (.inl rfl) c
  have hn : ∀ {k : Nat} {o : Obj}, w'.heap[k]? = some o → k ≠ g → (w'.setCell ⟨g, j, none⟩ c).heap[k]? = some o := fun hk hne => hs.same hk hne
  exact
  { lo := h.lo.setCell (p := ⟨g, j, none⟩) h.gb.1 c
    blk := by
      have h1 := cell_setB h.blk j c
      rw [he] at h1
      exact h1
    map := hn h.map (fun e => by have h1 := h.map; rw [e, h.blk] at h1; injection h1 with h1; cases h1)
    gb := h.gb
    r1 := R_own h.r1 (fun k hk => hs.1.2 k (by obtain ⟨_, _, h1⟩ := own_blk h.r1 hk; exact lt_of_blk h1) (fun e => own_ne h.r1 h.blk (by decide) (e ▸ hk.symm)))
    r2 := R_own h.r2 (fun k hk => hs.1.2 k (by obtain ⟨_, _, h1⟩ := own_blk h.r2 hk; exact lt_of_blk h1) (fun e => own_ne h.r2 h.blk (by decide) (e ▸ hk.symm)))
    ap := h.ap
    nd := h.nd
    bl := fun p hp => ⟨(h.bl p hp).1, hn (h.bl p hp).2 (fun e => by
      have h1 := (h.bl p hp).2
      rw [e, h.blk] at h1
      injection h1 with h1
      injection h1 with _ h1
      exact absurd h1 (by decide))⟩ }
end
end Go.Proofs.Ytoleencecfjcjaa.At

/- New. -/
set_option linter.unusedVariables false
set_option linter.unusedSimpArgs false
namespace Go.Proofs.Ytoleencecfjcjaa.At
open Go.RowKit Go.Proofs.YtoleencecfjcjaaW.PrintWords Go.Proofs.YtoleencecfjcjaaW.PrintLast Go.Proofs.Ytoleencecfjcjaa.Rng Go.WideMaps Go.WideElems
open Go.ChangeShapes Go.WideShapes Go.MapKept
attribute [local go_sem] run_makeMap_plain
theorem row_outer {W base : Nat} {w : World} {ok : Nat → Prop} {v : Value} {P : List Nat} (h : Kd.R (kP W) 79 w base ok v P) (hn : 0 < P.length) : ∃ gp cp, v = .slice (some ⟨gp, 0, none⟩) P.length cp ∧ Outer gp W P w ∧ v.ownBlock = some gp := by
  obtain ⟨_, inner, ⟨hlen, hv⟩, hreps⟩ := h
  rcases hv with ⟨rfl, h0⟩ | ⟨G, cap, cur, rfl, hG, hH, hcap, hmax, hsz, htake⟩
  · omega
  · refine ⟨G, cap, rfl, fun k p hp => ?_, by simp [Value.ownBlock]⟩
    have h1 := hreps.2 k p hp
    have hk : k < P.length := (List.getElem?_eq_some_iff.1 hp).1
    have hz : (kP W).sz = 1 := rfl
    rw [hz] at h1 htake
    have h1 : List.take 1 (List.drop (k * 1) inner) = [.slice (some ⟨p, 0, none⟩) W W] := h1
    have h2 : inner[k]? = some (.slice (some ⟨p, 0, none⟩) W W) := by
      have h3 : (List.take 1 (List.drop (k * 1) inner))[0]? = inner[k]? := by rw [List.getElem?_take, if_pos (by omega), List.getElem?_drop, Nat.mul_one, Nat.add_zero]
      rw [← h3, h1]
      rfl
    rw [← htake, List.getElem?_take] at h2
    split at h2
    · exact ckA hH k _ (by simpa using h2)
    · cases h2
theorem NwI.at_ {w w' : World} {g b W H : Nat} {v1 v2 : Value} {P T : List Nat} (h : NwI w g b W H v1 v2 v1 v2 P T [] w') (hP : P.length = H) (hT : T.length = H) (hW : 1 ≤ W ∧ W ≤ 128) (hH : 1 ≤ H ∧ H ≤ 128) : ∃ Q, AtIs w' g W H 0 [] Q ∧ ∀ k, Q k → w.heap.size ≤ k := by
  obtain ⟨gp, cp, rfl, op, e1⟩ := row_outer h.r1 (by omega)
  obtain ⟨gt, ct, rfl, ot, e2⟩ := row_outer h.r2 (by omega)
  obtain ⟨p1, cs1, b1⟩ := own_blk h.r1 e1
  obtain ⟨p2, cs2, b2⟩ := own_blk h.r2 e2
  rw [hP] at h
  rw [hT] at h
  have hbl := h.bl
  have hnd := h.nd
  rw [List.append_nil] at hbl hnd
  have hPT := List.nodup_append.1 hnd
  have ty : ∀ {k j : Nat} {c1 c2 : Array Value} {t1 t2 : TypeId}, w'.heap[k]? = some (.cells c1 t1 (0, 0)) → w'.heap[j]? = some (.cells c2 t2 (0, 0)) → t1 ≠ t2 → k ≠ j := fun h1 h2 hne e => by
    rw [e, h2] at h1
    injection h1 with h1
    injection h1 with _ h1
    exact hne h1.symm
  have tm : ∀ {k : Nat} {c1 : Array Value} {t1 : TypeId}, w'.heap[k]? = some (.cells c1 t1 (0, 0)) → k ≠ b := fun h1 e => by
    rw [e, h.map] at h1
    injection h1 with h1
    cases h1
  have h12 : gp ≠ gt := fun e => h.ap gp (by rw [hP] at e1; exact e1) (by rw [hT] at e2; rw [e]; exact e2)
  refine ⟨_, ⟨[], gp, gt, b, cp, ct, 0, P, T, (fun _ _ => false), (fun _ _ => false), #[], 0, ?_, rfl, fun k => Iff.rfl⟩, fun k hk => ?_⟩
  · exact
    { hW := hW
      hH := hH
      blk := h.blk
      lp := hP
      lt := hT
      bp := lt_of_blk b1
      bt := lt_of_blk b2
      op := op
      ot := ot
      rp := fun k p hp => (hbl p (List.mem_append_left _ (List.mem_of_getElem? hp))).2
      rt := fun k p hp => (hbl p (List.mem_append_right _ (List.mem_of_getElem? hp))).2
      map := h.map
      ents := List.Perm.refl _
      born := fun e he => absurd he (by simp)
      bnd := List.nodup_nil
      ent := fun x hx => absurd hx (by simp)
      nd := by
        rw [List.map_nil, List.append_nil]
        simp only [List.nodup_cons, List.mem_cons, not_or]
        refine ⟨⟨ty h.blk b1 (by decide), ty h.blk b2 (by decide), tm h.blk, fun e => ty h.blk (hbl g e).2 (by decide) rfl⟩, ⟨h12, tm b1, fun e => ty b1 (hbl gp e).2 (by decide) rfl⟩, ⟨tm b2, fun e => ty b2 (hbl gt e).2 (by decide) rfl⟩, fun e => tm (hbl b e).2 rfl, hnd⟩
      used := List.Pairwise.nil
      le := fun x hx => absurd hx (by simp)
      inv := ⟨List.Pairwise.nil, fun e he => absurd he (by simp), fun e he => absurd he (by simp), List.Pairwise.nil⟩
      taken := fun x y _ _ => rfl
      pix := fun x hx => absurd hx (by simp)
      len := fun x hx => absurd hx (by simp)
      clk := Nat.le_refl _ }
  · simp only [blksOf, List.map_nil, List.append_nil, List.mem_cons] at hk
    rcases hk with rfl | rfl | rfl | rfl | hk
    · exact h.gb.1
    · exact p1
    · exact p2
    · exact h.gb.2
    · exact (hbl k hk).1
theorem len24 (n : Nat) (h : n ≤ 1000) : (n + 1) * 24 ≤ 140737488355328 := by omega
set_option maxRecDepth 100000 in
set_option maxHeartbeats 4000000 in
theorem New_c (W H : Nat) (hW : 1 ≤ W ∧ W ≤ 128) (hH : 1 ≤ H ∧ H ≤ 128) (w : World) : Calls Try.prog 10 #[.int .i64 (W : Int), .int .i64 (H : Int)] w fun e w' => ∃ g Q, e = .returned (.pointer (some ⟨g, 0, none⟩)) ∧ AtIs w' g W H 0 [] Q ∧ Below w.heap.size w w' ∧ ∀ k, Q k → w.heap.size ≤ k := by
  have HW := Lib.hid hW
  have HH := Lib.hid hH
  have t1 : decide ((W : Int) < 1) = false := decide_eq_false (by omega)
  have t2 : decide (128 < (W : Int)) = false := decide_eq_false (by omega)
  have t3 : decide ((H : Int) < 1) = false := decide_eq_false (by omega)
  have t4 : decide (128 < (H : Int)) = false := decide_eq_false (by omega)
  have hmk : ∀ V : World, (Instr.makeSlice 79 (.int .i64 (W : Int)) (.int .i64 (W : Int))).run Try.prog V = .ok (.slice (some ⟨V.heap.size, 0, none⟩) W W) (V.alloc (.cells (boolsA W (fun _ => false)) 4 (0, 0))) := by
    intro V
    rw [← boolsA_made]
    exact run_make_row' 79 4 (.bool false) 1 (by kernel_rfl) (by kernel_rfl) rfl .i64 .i64 W (by omega) (by omega) V
  have HN0 := Lib.hid (show NwI w (w.heap.size + 1) w.heap.size W H (.slice none 0 0) (.slice none 0 0) (.slice none 0 0) (.slice none 0 0) [] [] [] ((w.alloc (.map #[] 0)).alloc (.cells #[.int .i64 (W : Int), .int .i64 (H : Int), .slice none 0 0, .slice none 0 0, .map (some w.heap.size), .int .i64 0] 64)) from
    { lo := below_alloc (below_alloc (Below.refl _ _) _) _
      blk := by
        have := blk_new (w.alloc (.map #[] 0)) (.cells #[.int .i64 (W : Int), .int .i64 (H : Int), .slice none 0 0, .slice none 0 0, .map (some w.heap.size), .int .i64 0] 64)
        simpa using this
      map := blk_alloc (blk_new w _) _
      gb := ⟨Nat.le_succ _, Nat.le_refl _⟩
      r1 := Kd.R_nil _ _ _ _ _
      r2 := Kd.R_nil _ _ _ _ _
      ap := fun k hk => by simp [Value.ownBlock] at hk
      nd := List.nodup_nil
      bl := fun p hp => absurd hp (by simp) })
  clear hW hH
  go_enter Try.func10, Try.ntmps10
  go_upto_block 0 with fail
  go_wp2
  clear t1 t2 t3 t4
  go_loopg [26] (H + 1) (fun kq v26 w' => ∃ (k : Nat) (V1 V2 : Value) (P T : List Nat), v26 = .int .i64 (k : Int) ∧ k + kq = H + 1 ∧ k ≤ H ∧ P.length = k ∧ T.length = k ∧ NwI w (w.heap.size + 1) w.heap.size W H V1 V2 V1 V2 P T [] w')
  case atStart => exact ⟨0, _, _, [], [], rfl, by omega, by omega, rfl, rfl, HN0.out⟩
  case round =>
    obtain ⟨k, V1, V2, P, T, rfl, hk, hkH, hP, hT, hN⟩ := hrel
    have HK := Lib.hid (show k + gk = H + 1 ∧ k ≤ H ∧ P.length = k ∧ T.length = k from ⟨hk, hkH, hP, hT⟩)
    by_cases c0 : k < H
    · have d1 : decide ((k : Int) < (H : Int)) = true := decide_eq_true (by omega)
      have HE1 := Lib.hid (show IntKind.i64.wrap ((k : Int) + 1) = ((k + 1 : Nat) : Int) ∧ wrap64 ((k : Int) + 1) = ((k + 1 : Nat) : Int) from sum1 k (by have := HH.out; omega))
      have HLP := Lib.hid (show P.length ≤ 1000 ∧ T.length ≤ 1000 from by have := HH.out; omega)
      have HC0 := Lib.hid c0
      have HF := Lib.hid (show NwI w (w.heap.size + 1) w.heap.size W H V1 V2 V1 V2 P T [] wr.drew from
        { hN with lo := hN.lo.drew, r1 := Kd.R_drew hN.r1, r2 := Kd.R_drew hN.r2 })
      have x2 : wr.drew.cell? ⟨w.heap.size + 1, 2, none⟩ = some V1 := ckA HF.out.blk 2 _ rfl
      have x3 : wr.drew.cell? ⟨w.heap.size + 1, 3, none⟩ = some V2 := ckA HF.out.blk 3 _ rfl
      clear hk hkH hP hT hN c0 HN0
      go_upto_region 6 with fail
      refine start_ (n := 24) (S := fun w' => w'.cell? ⟨w.heap.size + 1, 2, none⟩ = some V1 ∧ w'.cell? ⟨w.heap.size + 1, 3, none⟩ = some V2) (ds := [20, 23]) #[false, false, false, false, false, false, false, false, false, false, false, false, false, false, false, false, false, false, false, false, false, false, false, false] (by kernel_rfl) rfl rfl ⟨x2, x3⟩ (fun hHeld => ?_)
      refine pure_ (i := 0) (N := some 28) (v := ?_) (a' := ?_) #[true, false, false, false, false, false, false, false, false, false, false, false, false, false, false, false, false, false, false, false, false, false, false, false] rfl rfl (by kernel_rfl) (fun _ _ _ h => h) (Or.inl ⟨by rfl, ?_⟩) ?_ ?_
      rotate_left
      · intro w'
        go_simp
        with_reducible rfl
      rotate_left
      · simp only [Act.put, List.setIfInBounds_toArray, List.set_cons_zero, List.set_cons_succ, i64_w, i32_w]
        rfl
      refine pure_ (i := 1) (N := some 29) (v := ?_) (a' := ?_) #[true, true, false, false, false, false, false, false, false, false, false, false, false, false, false, false, false, false, false, false, false, false, false, false] rfl rfl (by kernel_rfl) (fun _ _ _ h => h) (Or.inl ⟨by rfl, ?_⟩) ?_ ?_
      rotate_left
      · intro w'
        go_simp
        with_reducible rfl
      rotate_left
      · simp only [Act.put, List.setIfInBounds_toArray, List.set_cons_zero, List.set_cons_succ, i64_w, i32_w]
        rfl
      refine pure_ (i := 2) (N := some 30) (v := ?_) (a' := ?_) #[true, true, true, false, false, false, false, false, false, false, false, false, false, false, false, false, false, false, false, false, false, false, false, false] rfl rfl (by kernel_rfl) (fun _ _ _ h => h) (Or.inl ⟨by rfl, ?_⟩) ?_ ?_
      rotate_left
      · intro w'
        go_simp
        with_reducible rfl
      rotate_left
      · simp only [Act.put, List.setIfInBounds_toArray, List.set_cons_zero, List.set_cons_succ, i64_w, i32_w]
        rfl
      refine pure_ (i := 3) (N := some 31) (v := ?_) (a' := ?_) #[true, true, true, true, false, false, false, false, false, false, false, false, false, false, false, false, false, false, false, false, false, false, false, false] rfl rfl (by kernel_rfl) (fun _ _ _ h => h) (Or.inl ⟨by rfl, ?_⟩) ?_ ?_
      rotate_left
      · intro w'
        go_simp
        with_reducible rfl
      rotate_left
      · simp only [Act.put, List.setIfInBounds_toArray, List.set_cons_zero, List.set_cons_succ, i64_w, i32_w]
        rfl
      refine pure_ (i := 4) (N := some 32) (v := ?_) (a' := ?_) #[true, true, true, true, true, false, false, false, false, false, false, false, false, false, false, false, false, false, false, false, false, false, false, false] rfl rfl (by kernel_rfl) (fun _ _ _ h => h) (Or.inl ⟨by rfl, ?_⟩) ?_ ?_
      rotate_left
      · intro w'
        go_simp
        with_reducible rfl
      rotate_left
      · simp only [Act.put, List.setIfInBounds_toArray, List.set_cons_zero, List.set_cons_succ, i64_w, i32_w]
        rfl
      refine pure_ (i := 6) (N := some 34) (v := ?_) (a' := ?_) #[true, true, true, true, true, false, true, false, false, false, false, false, false, false, false, false, false, false, false, false, false, false, false, false] rfl rfl (by kernel_rfl) (fun _ _ _ h => h) (Or.inl ⟨by rfl, ?_⟩) ?_ ?_
      rotate_left
      · intro w'
        go_simp
        with_reducible rfl
      rotate_left
      · simp only [Act.put, List.setIfInBounds_toArray, List.set_cons_zero, List.set_cons_succ, i64_w, i32_w]
        rfl
      refine pure_ (i := 10) (N := some 38) (v := ?_) (a' := ?_) #[true, true, true, true, true, false, true, false, false, false, true, false, false, false, false, false, false, false, false, false, false, false, false, false] rfl rfl (by kernel_rfl) (fun _ _ _ h => h) (Or.inl ⟨by rfl, ?_⟩) ?_ ?_
      rotate_left
      · intro w'
        go_simp
        with_reducible rfl
      rotate_left
      · simp only [Act.put, List.setIfInBounds_toArray, List.set_cons_zero, List.set_cons_succ, i64_w, i32_w]
        rfl
      refine pure_ (i := 11) (N := some 39) (v := ?_) (a' := ?_) #[true, true, true, true, true, false, true, false, false, false, true, true, false, false, false, false, false, false, false, false, false, false, false, false] rfl rfl (by kernel_rfl) (fun _ _ _ h => h) (Or.inl ⟨by rfl, ?_⟩) ?_ ?_
      rotate_left
      · intro w'
        go_simp
        with_reducible rfl
      rotate_left
      · simp only [Act.put, List.setIfInBounds_toArray, List.set_cons_zero, List.set_cons_succ, i64_w, i32_w]
        rfl
      refine pure_ (i := 12) (N := some 40) (v := ?_) (a' := ?_) #[true, true, true, true, true, false, true, false, false, false, true, true, true, false, false, false, false, false, false, false, false, false, false, false] rfl rfl (by kernel_rfl) (fun _ _ _ h => h) (Or.inl ⟨by rfl, ?_⟩) ?_ ?_
      rotate_left
      · intro w'
        go_simp
        with_reducible rfl
      rotate_left
      · simp only [Act.put, List.setIfInBounds_toArray, List.set_cons_zero, List.set_cons_succ, i64_w, i32_w]
        rfl
      refine pure_ (i := 14) (N := some 42) (v := ?_) (a' := ?_) #[true, true, true, true, true, false, true, false, false, false, true, true, true, false, true, false, false, false, false, false, false, false, false, false] rfl rfl (by kernel_rfl) (fun _ _ _ h => h) (Or.inl ⟨by rfl, ?_⟩) ?_ ?_
      rotate_left
      · intro w'
        go_simp
        with_reducible rfl
      rotate_left
      · simp only [Act.put, List.setIfInBounds_toArray, List.set_cons_zero, List.set_cons_succ, i64_w, i32_w]
        rfl
      refine take_ (i := 5) (N := some 33) (v := ?_) (a' := ?_) #[true, true, true, true, true, true, true, false, false, false, true, true, true, false, true, false, false, false, false, false, false, false, false, false] rfl rfl (by kernel_rfl) (fun _ _ _ h => h) (Or.inl ⟨by rfl, ?_⟩) hHeld ?_ ?_
      rotate_left
      · rintro w' ⟨s0, s1⟩
        go_simp
        with_reducible rfl
      rotate_left
      · simp only [Act.put, List.setIfInBounds_toArray, List.set_cons_zero, List.set_cons_succ, i64_w, i32_w]
        rfl
      refine take_ (i := 13) (N := some 41) (v := ?_) (a' := ?_) #[true, true, true, true, true, true, true, false, false, false, true, true, true, true, true, false, false, false, false, false, false, false, false, false] rfl rfl (by kernel_rfl) (fun _ _ _ h => h) (Or.inl ⟨by rfl, ?_⟩) hHeld ?_ ?_
      rotate_left
      · rintro w' ⟨s0, s1⟩
        go_simp
        with_reducible rfl
      rotate_left
      · simp only [Act.put, List.setIfInBounds_toArray, List.set_cons_zero, List.set_cons_succ, i64_w, i32_w]
        rfl
      refine join_ (σ := Nat × Nat × Value × Nat × Nat) 7 #[true, true, true, true, true, true, true, true, true, true, true, true, true, true, true, true, true, false, false, false, false, false, false, false] (fun s => [(35, .slice (some ⟨s.1, 0, none⟩) W W), (36, .slice (some ⟨s.2.1, 0, none⟩) 1 1), (37, s.2.2.1), (43, .slice (some ⟨s.2.2.2.1, 0, none⟩) W W), (44, .slice (some ⟨s.2.2.2.2, 0, none⟩) 1 1)]) (fun s w' => NwI w (w.heap.size + 1) w.heap.size W H V1 V2 (s.2.2.1) V2 (P ++ [s.1]) T [s.2.2.2.1] w' ∧ Lit W (s.2.2.1) V2 s.2.2.2.2 s.2.2.2.1 w') ?_ ?_
      rotate_left
      · intro hJ7_8_9_15_16
        refine join_ (σ := Nat × Nat × Value × Nat × Nat) 8 #[true, true, true, true, true, true, true, true, true, true, true, true, true, true, true, true, false, false, false, false, false, false, false, false] (fun s => [(35, .slice (some ⟨s.1, 0, none⟩) W W), (36, .slice (some ⟨s.2.1, 0, none⟩) 1 1), (37, s.2.2.1), (43, .slice (some ⟨s.2.2.2.1, 0, none⟩) W W)]) (fun s w' => NwI w (w.heap.size + 1) w.heap.size W H V1 V2 (s.2.2.1) V2 (P ++ [s.1]) T [s.2.2.2.1] w') ?_ ?_
        rotate_left
        · intro hJ7_8_9_15
          refine join_ (σ := Nat × Nat × Value × Nat × Nat) 8 #[true, true, true, true, true, true, true, true, true, false, true, true, true, true, true, true, true, false, false, false, false, false, false, false] (fun s => [(35, .slice (some ⟨s.1, 0, none⟩) W W), (36, .slice (some ⟨s.2.1, 0, none⟩) 1 1), (43, .slice (some ⟨s.2.2.2.1, 0, none⟩) W W), (44, .slice (some ⟨s.2.2.2.2, 0, none⟩) 1 1)]) (fun s w' => NwI w (w.heap.size + 1) w.heap.size W H V1 V2 V1 V2 P T [s.1, s.2.2.2.1] w' ∧ Lit W V1 V2 s.2.1 s.1 w' ∧ Lit W V1 V2 s.2.2.2.2 s.2.2.2.1 w') ?_ ?_
          rotate_left
          · intro hJ7_8_15_16
            refine join_ (σ := Nat × Nat × Value × Nat × Nat) 9 #[true, true, true, true, true, true, true, true, true, true, true, true, true, true, true, false, false, false, false, false, false, false, false, false] (fun s => [(35, .slice (some ⟨s.1, 0, none⟩) W W), (36, .slice (some ⟨s.2.1, 0, none⟩) 1 1), (37, s.2.2.1)]) (fun s w' => NwI w (w.heap.size + 1) w.heap.size W H V1 V2 (s.2.2.1) V2 (P ++ [s.1]) T [] w') ?_ ?_
            rotate_left
            · intro hJ7_8_9
              refine join_ (σ := Nat × Nat × Value × Nat × Nat) 9 #[true, true, true, true, true, true, true, true, true, false, true, true, true, true, true, true, false, false, false, false, false, false, false, false] (fun s => [(35, .slice (some ⟨s.1, 0, none⟩) W W), (36, .slice (some ⟨s.2.1, 0, none⟩) 1 1), (43, .slice (some ⟨s.2.2.2.1, 0, none⟩) W W)]) (fun s w' => NwI w (w.heap.size + 1) w.heap.size W H V1 V2 V1 V2 P T [s.1, s.2.2.2.1] w' ∧ Lit W V1 V2 s.2.1 s.1 w') ?_ ?_
              rotate_left
              · intro hJ7_8_15
                refine join_ (σ := Nat × Nat × Value × Nat × Nat) 9 #[true, true, true, true, true, true, true, true, false, false, true, true, true, true, true, true, true, false, false, false, false, false, false, false] (fun s => [(35, .slice (some ⟨s.1, 0, none⟩) W W), (43, .slice (some ⟨s.2.2.2.1, 0, none⟩) W W), (44, .slice (some ⟨s.2.2.2.2, 0, none⟩) 1 1)]) (fun s w' => NwI w (w.heap.size + 1) w.heap.size W H V1 V2 V1 V2 P T [s.1, s.2.2.2.1] w' ∧ Lit W V1 V2 s.2.2.2.2 s.2.2.2.1 w') ?_ ?_
                rotate_left
                · intro hJ7_15_16
                  refine join_ (σ := Nat × Nat × Value × Nat × Nat) 10 #[true, true, true, true, true, true, true, true, true, false, true, true, true, true, true, false, false, false, false, false, false, false, false, false] (fun s => [(35, .slice (some ⟨s.1, 0, none⟩) W W), (36, .slice (some ⟨s.2.1, 0, none⟩) 1 1)]) (fun s w' => NwI w (w.heap.size + 1) w.heap.size W H V1 V2 V1 V2 P T [s.1] w' ∧ Lit W V1 V2 s.2.1 s.1 w') ?_ ?_
                  rotate_left
                  · intro hJ7_8
                    refine join_ (σ := Nat × Nat × Value × Nat × Nat) 10 #[true, true, true, true, true, true, true, true, false, false, true, true, true, true, true, true, false, false, false, false, false, false, false, false] (fun s => [(35, .slice (some ⟨s.1, 0, none⟩) W W), (43, .slice (some ⟨s.2.2.2.1, 0, none⟩) W W)]) (fun s w' => NwI w (w.heap.size + 1) w.heap.size W H V1 V2 V1 V2 P T [s.1, s.2.2.2.1] w') ?_ ?_
                    rotate_left
                    · intro hJ7_15
                      refine join_ (σ := Nat × Nat × Value × Nat × Nat) 10 #[true, true, true, true, true, true, true, false, false, false, true, true, true, true, true, true, true, false, false, false, false, false, false, false] (fun s => [(43, .slice (some ⟨s.2.2.2.1, 0, none⟩) W W), (44, .slice (some ⟨s.2.2.2.2, 0, none⟩) 1 1)]) (fun s w' => NwI w (w.heap.size + 1) w.heap.size W H V1 V2 V1 V2 P T [s.2.2.2.1] w' ∧ Lit W V1 V2 s.2.2.2.2 s.2.2.2.1 w') ?_ ?_
                      rotate_left
                      · intro hJ15_16
                        refine join_ (σ := Nat × Nat × Value × Nat × Nat) 11 #[true, true, true, true, true, true, true, true, false, false, true, true, true, true, true, false, false, false, false, false, false, false, false, false] (fun s => [(35, .slice (some ⟨s.1, 0, none⟩) W W)]) (fun s w' => NwI w (w.heap.size + 1) w.heap.size W H V1 V2 V1 V2 P T [s.1] w') ?_ ?_
                        rotate_left
                        · intro hJ7
                          refine join_ (σ := Nat × Nat × Value × Nat × Nat) 11 #[true, true, true, true, true, true, true, false, false, false, true, true, true, true, true, true, false, false, false, false, false, false, false, false] (fun s => [(43, .slice (some ⟨s.2.2.2.1, 0, none⟩) W W)]) (fun s w' => NwI w (w.heap.size + 1) w.heap.size W H V1 V2 V1 V2 P T [s.2.2.2.1] w') ?_ ?_
                          rotate_left
                          · intro hJ15
                            refine two_ (i := 7) (j := 15) (Ni := some 35) (Nj := some 43) #[true, true, true, true, true, true, true, true, false, false, true, true, true, true, true, false, false, false, false, false, false, false, false, false] #[true, true, true, true, true, true, true, false, false, false, true, true, true, true, true, true, false, false, false, false, false, false, false, false] rfl rfl rfl rfl (by kernel_rfl) (by decide) (by decide) (fun K hK => ?_) (fun K hK => ?_)
                            · skip
                              refine value_ (w1 := ?_) (v := ?_) (by rfl) rfl ?_ ?_
                              rotate_left 2
                              · go_simp
                                constructor
                                · rfl
                                · rfl
                              refine hK.out _ _ ⟨ckA (HF.out.mk' (E' := [wr.drew.heap.size]) (List.Perm.refl _)).blk 2 _ rfl, ckA (HF.out.mk' (E' := [wr.drew.heap.size]) (List.Perm.refl _)).blk 3 _ rfl⟩ (fun hHeld => ?_)
                              clear hK K
                              refine norm_ (a' := ?_) ?_ ?_
                              rotate_left
                              · show Act.put _ (some 35) _ = _
                                simp only [Act.put, List.setIfInBounds_toArray, List.set_cons_zero, List.set_cons_succ, i64_w, i32_w]
                                rfl
                              exact norm_ (by first | (simp only [putAll, Act.put, List.setIfInBounds_toArray, List.set_cons_zero, List.set_cons_succ]; done) | (simp only [putAll, Act.put, List.setIfInBounds_toArray, List.set_cons_zero, List.set_cons_succ]; rfl)) (hJ7 (wr.drew.heap.size, 0, .pointer none, 0, 0) _ (HF.out.mk' (E' := [wr.drew.heap.size]) (List.Perm.refl _)))
                            · skip
                              refine value_ (w1 := ?_) (v := ?_) (by rfl) rfl ?_ ?_
                              rotate_left 2
                              · go_simp
                                constructor
                                · rfl
                                · rfl
                              refine hK.out _ _ ⟨ckA (HF.out.mk' (E' := [wr.drew.heap.size]) (List.Perm.refl _)).blk 2 _ rfl, ckA (HF.out.mk' (E' := [wr.drew.heap.size]) (List.Perm.refl _)).blk 3 _ rfl⟩ (fun hHeld => ?_)
                              clear hK K
                              refine norm_ (a' := ?_) ?_ ?_
                              rotate_left
                              · show Act.put _ (some 43) _ = _
                                simp only [Act.put, List.setIfInBounds_toArray, List.set_cons_zero, List.set_cons_succ, i64_w, i32_w]
                                rfl
                              exact norm_ (by first | (simp only [putAll, Act.put, List.setIfInBounds_toArray, List.set_cons_zero, List.set_cons_succ]; done) | (simp only [putAll, Act.put, List.setIfInBounds_toArray, List.set_cons_zero, List.set_cons_succ]; rfl)) (hJ15 (0, 0, .pointer none, wr.drew.heap.size, 0) _ (HF.out.mk' (E' := [wr.drew.heap.size]) (List.Perm.refl _)))
                          · skip
                            rintro ⟨a1, q1, y1, a2, q2⟩ v hF
                            dsimp only at hF ⊢
                            clear HF
                            have HF := Lib.hid hF
                            have hHeld : v.cell? ⟨w.heap.size + 1, 2, none⟩ = some V1 ∧ v.cell? ⟨w.heap.size + 1, 3, none⟩ = some V2 := ⟨ckA HF.out.blk 2 _ rfl, ckA HF.out.blk 3 _ rfl⟩
                            clear hF
                            refine norm_ (a' := ?_) ?_ ?_
                            rotate_left
                            · simp only [putAll, Act.put, List.setIfInBounds_toArray, List.set_cons_zero, List.set_cons_succ]
                              rfl
                            refine two_ (i := 7) (j := 16) (Ni := some 35) (Nj := some 44) #[true, true, true, true, true, true, true, true, false, false, true, true, true, true, true, true, false, false, false, false, false, false, false, false] #[true, true, true, true, true, true, true, false, false, false, true, true, true, true, true, true, true, false, false, false, false, false, false, false] rfl rfl rfl rfl (by kernel_rfl) (by decide) (by decide) (fun K hK => ?_) (fun K hK => ?_)
                            · skip
                              refine value_ (w1 := ?_) (v := ?_) (by rfl) rfl ?_ ?_
                              rotate_left 2
                              · go_simp
                                constructor
                                · rfl
                                · rfl
                              refine hK.out _ _ ⟨ckA (HF.out.mk' (E' := [v.heap.size, a2]) (List.Perm.refl _)).blk 2 _ rfl, ckA (HF.out.mk' (E' := [v.heap.size, a2]) (List.Perm.refl _)).blk 3 _ rfl⟩ (fun hHeld => ?_)
                              clear hK K
                              refine norm_ (a' := ?_) ?_ ?_
                              rotate_left
                              · show Act.put _ (some 35) _ = _
                                simp only [Act.put, List.setIfInBounds_toArray, List.set_cons_zero, List.set_cons_succ, i64_w, i32_w]
                                rfl
                              exact norm_ (by first | (simp only [putAll, Act.put, List.setIfInBounds_toArray, List.set_cons_zero, List.set_cons_succ]; done) | (simp only [putAll, Act.put, List.setIfInBounds_toArray, List.set_cons_zero, List.set_cons_succ]; rfl)) (hJ7_15 (v.heap.size, q1, y1, a2, q2) _ (HF.out.mk' (E' := [v.heap.size, a2]) (List.Perm.refl _)))
                            · skip
                              refine value_ (w1 := ?_) (v := ?_) (by rfl) rfl ?_ ?_
                              rotate_left 2
                              · go_simp
                                constructor
                                · rfl
                                · rfl
                              refine hK.out _ _ ⟨ckA (HF.out.alloc (.cells #[.slice (some ⟨a2, 0, none⟩) W W] 79 (0, 0))).blk 2 _ rfl, ckA (HF.out.alloc (.cells #[.slice (some ⟨a2, 0, none⟩) W W] 79 (0, 0))).blk 3 _ rfl⟩ (fun hHeld => ?_)
                              clear hK K
                              refine norm_ (a' := ?_) ?_ ?_
                              rotate_left
                              · show Act.put _ (some 44) _ = _
                                simp only [Act.put, List.setIfInBounds_toArray, List.set_cons_zero, List.set_cons_succ, i64_w, i32_w]
                                rfl
                              exact norm_ (by first | (simp only [putAll, Act.put, List.setIfInBounds_toArray, List.set_cons_zero, List.set_cons_succ]; done) | (simp only [putAll, Act.put, List.setIfInBounds_toArray, List.set_cons_zero, List.set_cons_succ]; rfl)) (hJ15_16 (a1, q1, y1, a2, v.heap.size) _ ⟨HF.out.alloc (.cells #[.slice (some ⟨a2, 0, none⟩) W W] 79 (0, 0)), HF.out.lit a2⟩)
                        · skip
                          rintro ⟨a1, q1, y1, a2, q2⟩ v hF
                          dsimp only at hF ⊢
                          clear HF
                          have HF := Lib.hid hF
                          have hHeld : v.cell? ⟨w.heap.size + 1, 2, none⟩ = some V1 ∧ v.cell? ⟨w.heap.size + 1, 3, none⟩ = some V2 := ⟨ckA HF.out.blk 2 _ rfl, ckA HF.out.blk 3 _ rfl⟩
                          clear hF
                          refine norm_ (a' := ?_) ?_ ?_
                          rotate_left
                          · simp only [putAll, Act.put, List.setIfInBounds_toArray, List.set_cons_zero, List.set_cons_succ]
                            rfl
                          refine two_ (i := 8) (j := 15) (Ni := some 36) (Nj := some 43) #[true, true, true, true, true, true, true, true, true, false, true, true, true, true, true, false, false, false, false, false, false, false, false, false] #[true, true, true, true, true, true, true, true, false, false, true, true, true, true, true, true, false, false, false, false, false, false, false, false] rfl rfl rfl rfl (by kernel_rfl) (by decide) (by decide) (fun K hK => ?_) (fun K hK => ?_)
                          · skip
                            refine value_ (w1 := ?_) (v := ?_) (by rfl) rfl ?_ ?_
                            rotate_left 2
                            · go_simp
                              constructor
                              · rfl
                              · rfl
                            refine hK.out _ _ ⟨ckA (HF.out.alloc (.cells #[.slice (some ⟨a1, 0, none⟩) W W] 79 (0, 0))).blk 2 _ rfl, ckA (HF.out.alloc (.cells #[.slice (some ⟨a1, 0, none⟩) W W] 79 (0, 0))).blk 3 _ rfl⟩ (fun hHeld => ?_)
                            clear hK K
                            refine norm_ (a' := ?_) ?_ ?_
                            rotate_left
                            · show Act.put _ (some 36) _ = _
                              simp only [Act.put, List.setIfInBounds_toArray, List.set_cons_zero, List.set_cons_succ, i64_w, i32_w]
                              rfl
                            exact norm_ (by first | (simp only [putAll, Act.put, List.setIfInBounds_toArray, List.set_cons_zero, List.set_cons_succ]; done) | (simp only [putAll, Act.put, List.setIfInBounds_toArray, List.set_cons_zero, List.set_cons_succ]; rfl)) (hJ7_8 (a1, v.heap.size, y1, a2, q2) _ ⟨HF.out.alloc (.cells #[.slice (some ⟨a1, 0, none⟩) W W] 79 (0, 0)), HF.out.lit a1⟩)
                          · skip
                            refine value_ (w1 := ?_) (v := ?_) (by rfl) rfl ?_ ?_
                            rotate_left 2
                            · go_simp
                              constructor
                              · rfl
                              · rfl
                            refine hK.out _ _ ⟨ckA (HF.out.mk' (E' := [a1, v.heap.size]) (List.Perm.swap _ _ _)).blk 2 _ rfl, ckA (HF.out.mk' (E' := [a1, v.heap.size]) (List.Perm.swap _ _ _)).blk 3 _ rfl⟩ (fun hHeld => ?_)
                            clear hK K
                            refine norm_ (a' := ?_) ?_ ?_
                            rotate_left
                            · show Act.put _ (some 43) _ = _
                              simp only [Act.put, List.setIfInBounds_toArray, List.set_cons_zero, List.set_cons_succ, i64_w, i32_w]
                              rfl
                            exact norm_ (by first | (simp only [putAll, Act.put, List.setIfInBounds_toArray, List.set_cons_zero, List.set_cons_succ]; done) | (simp only [putAll, Act.put, List.setIfInBounds_toArray, List.set_cons_zero, List.set_cons_succ]; rfl)) (hJ7_15 (a1, q1, y1, v.heap.size, q2) _ (HF.out.mk' (E' := [a1, v.heap.size]) (List.Perm.swap _ _ _)))
                      · skip
                        rintro ⟨a1, q1, y1, a2, q2⟩ v ⟨hF, hL2⟩
                        dsimp only at hF hL2 ⊢
                        clear HF
                        have HF := Lib.hid hF
                        have HL2 := Lib.hid hL2
                        have hHeld : v.cell? ⟨w.heap.size + 1, 2, none⟩ = some V1 ∧ v.cell? ⟨w.heap.size + 1, 3, none⟩ = some V2 := ⟨ckA HF.out.blk 2 _ rfl, ckA HF.out.blk 3 _ rfl⟩
                        clear hF hL2
                        refine norm_ (a' := ?_) ?_ ?_
                        rotate_left
                        · simp only [putAll, Act.put, List.setIfInBounds_toArray, List.set_cons_zero, List.set_cons_succ]
                          rfl
                        refine one_ (i := 7) (N := some 35) #[true, true, true, true, true, true, true, true, false, false, true, true, true, true, true, true, true, false, false, false, false, false, false, false] rfl rfl (by kernel_rfl) (by decide) (fun K hK => ?_)
                        refine value_ (w1 := ?_) (v := ?_) (by rfl) rfl ?_ ?_
                        rotate_left 2
                        · go_simp
                          constructor
                          · rfl
                          · rfl
                        refine hK.out _ _ ⟨ckA (HF.out.mk' (E' := [v.heap.size, a2]) (List.Perm.refl _)).blk 2 _ rfl, ckA (HF.out.mk' (E' := [v.heap.size, a2]) (List.Perm.refl _)).blk 3 _ rfl⟩ (fun hHeld => ?_)
                        clear hK K
                        refine norm_ (a' := ?_) ?_ ?_
                        rotate_left
                        · show Act.put _ (some 35) _ = _
                          simp only [Act.put, List.setIfInBounds_toArray, List.set_cons_zero, List.set_cons_succ, i64_w, i32_w]
                          rfl
                        exact norm_ (by first | (simp only [putAll, Act.put, List.setIfInBounds_toArray, List.set_cons_zero, List.set_cons_succ]; done) | (simp only [putAll, Act.put, List.setIfInBounds_toArray, List.set_cons_zero, List.set_cons_succ]; rfl)) (hJ7_15_16 (v.heap.size, q1, y1, a2, q2) _ ⟨HF.out.mk' (E' := [v.heap.size, a2]) (List.Perm.refl _), HL2.out.alloc _⟩)
                    · skip
                      rintro ⟨a1, q1, y1, a2, q2⟩ v hF
                      dsimp only at hF ⊢
                      clear HF
                      have HF := Lib.hid hF
                      have hHeld : v.cell? ⟨w.heap.size + 1, 2, none⟩ = some V1 ∧ v.cell? ⟨w.heap.size + 1, 3, none⟩ = some V2 := ⟨ckA HF.out.blk 2 _ rfl, ckA HF.out.blk 3 _ rfl⟩
                      clear hF
                      refine norm_ (a' := ?_) ?_ ?_
                      rotate_left
                      · simp only [putAll, Act.put, List.setIfInBounds_toArray, List.set_cons_zero, List.set_cons_succ]
                        rfl
                      refine two_ (i := 8) (j := 16) (Ni := some 36) (Nj := some 44) #[true, true, true, true, true, true, true, true, true, false, true, true, true, true, true, true, false, false, false, false, false, false, false, false] #[true, true, true, true, true, true, true, true, false, false, true, true, true, true, true, true, true, false, false, false, false, false, false, false] rfl rfl rfl rfl (by kernel_rfl) (by decide) (by decide) (fun K hK => ?_) (fun K hK => ?_)
                      · skip
                        refine value_ (w1 := ?_) (v := ?_) (by rfl) rfl ?_ ?_
                        rotate_left 2
                        · go_simp
                          constructor
                          · rfl
                          · rfl
                        refine hK.out _ _ ⟨ckA (HF.out.alloc (.cells #[.slice (some ⟨a1, 0, none⟩) W W] 79 (0, 0))).blk 2 _ rfl, ckA (HF.out.alloc (.cells #[.slice (some ⟨a1, 0, none⟩) W W] 79 (0, 0))).blk 3 _ rfl⟩ (fun hHeld => ?_)
                        clear hK K
                        refine norm_ (a' := ?_) ?_ ?_
                        rotate_left
                        · show Act.put _ (some 36) _ = _
                          simp only [Act.put, List.setIfInBounds_toArray, List.set_cons_zero, List.set_cons_succ, i64_w, i32_w]
                          rfl
                        exact norm_ (by first | (simp only [putAll, Act.put, List.setIfInBounds_toArray, List.set_cons_zero, List.set_cons_succ]; done) | (simp only [putAll, Act.put, List.setIfInBounds_toArray, List.set_cons_zero, List.set_cons_succ]; rfl)) (hJ7_8_15 (a1, v.heap.size, y1, a2, q2) _ ⟨HF.out.alloc (.cells #[.slice (some ⟨a1, 0, none⟩) W W] 79 (0, 0)), HF.out.lit a1⟩)
                      · skip
                        refine value_ (w1 := ?_) (v := ?_) (by rfl) rfl ?_ ?_
                        rotate_left 2
                        · go_simp
                          constructor
                          · rfl
                          · rfl
                        refine hK.out _ _ ⟨ckA (HF.out.alloc (.cells #[.slice (some ⟨a2, 0, none⟩) W W] 79 (0, 0))).blk 2 _ rfl, ckA (HF.out.alloc (.cells #[.slice (some ⟨a2, 0, none⟩) W W] 79 (0, 0))).blk 3 _ rfl⟩ (fun hHeld => ?_)
                        clear hK K
                        refine norm_ (a' := ?_) ?_ ?_
                        rotate_left
                        · show Act.put _ (some 44) _ = _
                          simp only [Act.put, List.setIfInBounds_toArray, List.set_cons_zero, List.set_cons_succ, i64_w, i32_w]
                          rfl
                        exact norm_ (by first | (simp only [putAll, Act.put, List.setIfInBounds_toArray, List.set_cons_zero, List.set_cons_succ]; done) | (simp only [putAll, Act.put, List.setIfInBounds_toArray, List.set_cons_zero, List.set_cons_succ]; rfl)) (hJ7_15_16 (a1, q1, y1, a2, v.heap.size) _ ⟨HF.out.alloc (.cells #[.slice (some ⟨a2, 0, none⟩) W W] 79 (0, 0)), HF.out.lit a2⟩)
                  · skip
                    rintro ⟨a1, q1, y1, a2, q2⟩ v ⟨hF, hL1⟩
                    dsimp only at hF hL1 ⊢
                    clear HF
                    have HF := Lib.hid hF
                    have HL1 := Lib.hid hL1
                    have hHeld : v.cell? ⟨w.heap.size + 1, 2, none⟩ = some V1 ∧ v.cell? ⟨w.heap.size + 1, 3, none⟩ = some V2 := ⟨ckA HF.out.blk 2 _ rfl, ckA HF.out.blk 3 _ rfl⟩
                    clear hF hL1
                    refine norm_ (a' := ?_) ?_ ?_
                    rotate_left
                    · simp only [putAll, Act.put, List.setIfInBounds_toArray, List.set_cons_zero, List.set_cons_succ]
                      rfl
                    refine two_ (i := 9) (j := 15) (Ni := some 37) (Nj := some 43) #[true, true, true, true, true, true, true, true, true, true, true, true, true, true, true, false, false, false, false, false, false, false, false, false] #[true, true, true, true, true, true, true, true, true, false, true, true, true, true, true, true, false, false, false, false, false, false, false, false] rfl rfl rfl rfl (by kernel_rfl) (by decide) (by decide) (fun K hK => ?_) (fun K hK => ?_)
                    · skip
                      refine append_at_step (kP W) (W := v) w.heap.size (by rfl) (.tmp 33) (.tmp 36) 61 79 (.slice none 0 0) 24 rfl undBB (infoBB W) rfl Nat.one_pos (by omega) V1 P a1 [.slice (some ⟨a1, 0, none⟩) W W] q1 (fun _ => True) (fun _ => False) rfl rfl rfl (fun _ hk => hk.elim) (fun _ _ => trivial) HL1.out.1 HF.out.r1 HF.out.lo.size (len24 _ HLP.out.1) ?_
                      intro v9 w9 ho9 hg9 hat9
                      refine hK.out _ _ ⟨ckA (HF.out.app1 (a := a1) (E' := []) (List.Perm.refl _) ho9 hg9 hat9).blk 2 _ rfl, ckA (HF.out.app1 (a := a1) (E' := []) (List.Perm.refl _) ho9 hg9 hat9).blk 3 _ rfl⟩ (fun hHeld => ?_)
                      clear hK K
                      refine norm_ (a' := ?_) ?_ ?_
                      rotate_left
                      · show Act.put _ (some 37) _ = _
                        simp only [Act.put, List.setIfInBounds_toArray, List.set_cons_zero, List.set_cons_succ, i64_w, i32_w]
                        rfl
                      exact norm_ (by first | (simp only [putAll, Act.put, List.setIfInBounds_toArray, List.set_cons_zero, List.set_cons_succ]; done) | (simp only [putAll, Act.put, List.setIfInBounds_toArray, List.set_cons_zero, List.set_cons_succ]; rfl)) (hJ7_8_9 (a1, q1, v9, a2, q2) _ (HF.out.app1 (a := a1) (E' := []) (List.Perm.refl _) ho9 hg9 hat9))
                    · skip
                      refine value_ (w1 := ?_) (v := ?_) (by rfl) rfl ?_ ?_
                      rotate_left 2
                      · go_simp
                        constructor
                        · rfl
                        · rfl
                      refine hK.out _ _ ⟨ckA (HF.out.mk' (E' := [a1, v.heap.size]) (List.Perm.swap _ _ _)).blk 2 _ rfl, ckA (HF.out.mk' (E' := [a1, v.heap.size]) (List.Perm.swap _ _ _)).blk 3 _ rfl⟩ (fun hHeld => ?_)
                      clear hK K
                      refine norm_ (a' := ?_) ?_ ?_
                      rotate_left
                      · show Act.put _ (some 43) _ = _
                        simp only [Act.put, List.setIfInBounds_toArray, List.set_cons_zero, List.set_cons_succ, i64_w, i32_w]
                        rfl
                      exact norm_ (by first | (simp only [putAll, Act.put, List.setIfInBounds_toArray, List.set_cons_zero, List.set_cons_succ]; done) | (simp only [putAll, Act.put, List.setIfInBounds_toArray, List.set_cons_zero, List.set_cons_succ]; rfl)) (hJ7_8_15 (a1, q1, y1, v.heap.size, q2) _ ⟨HF.out.mk' (E' := [a1, v.heap.size]) (List.Perm.swap _ _ _), HL1.out.alloc _⟩)
                · skip
                  rintro ⟨a1, q1, y1, a2, q2⟩ v ⟨hF, hL2⟩
                  dsimp only at hF hL2 ⊢
                  clear HF
                  have HF := Lib.hid hF
                  have HL2 := Lib.hid hL2
                  have hHeld : v.cell? ⟨w.heap.size + 1, 2, none⟩ = some V1 ∧ v.cell? ⟨w.heap.size + 1, 3, none⟩ = some V2 := ⟨ckA HF.out.blk 2 _ rfl, ckA HF.out.blk 3 _ rfl⟩
                  clear hF hL2
                  refine norm_ (a' := ?_) ?_ ?_
                  rotate_left
                  · simp only [putAll, Act.put, List.setIfInBounds_toArray, List.set_cons_zero, List.set_cons_succ]
                    rfl
                  refine one_ (i := 8) (N := some 36) #[true, true, true, true, true, true, true, true, true, false, true, true, true, true, true, true, true, false, false, false, false, false, false, false] rfl rfl (by kernel_rfl) (by decide) (fun K hK => ?_)
                  refine value_ (w1 := ?_) (v := ?_) (by rfl) rfl ?_ ?_
                  rotate_left 2
                  · go_simp
                    constructor
                    · rfl
                    · rfl
                  refine hK.out _ _ ⟨ckA (HF.out.alloc (.cells #[.slice (some ⟨a1, 0, none⟩) W W] 79 (0, 0))).blk 2 _ rfl, ckA (HF.out.alloc (.cells #[.slice (some ⟨a1, 0, none⟩) W W] 79 (0, 0))).blk 3 _ rfl⟩ (fun hHeld => ?_)
                  clear hK K
                  refine norm_ (a' := ?_) ?_ ?_
                  rotate_left
                  · show Act.put _ (some 36) _ = _
                    simp only [Act.put, List.setIfInBounds_toArray, List.set_cons_zero, List.set_cons_succ, i64_w, i32_w]
                    rfl
                  exact norm_ (by first | (simp only [putAll, Act.put, List.setIfInBounds_toArray, List.set_cons_zero, List.set_cons_succ]; done) | (simp only [putAll, Act.put, List.setIfInBounds_toArray, List.set_cons_zero, List.set_cons_succ]; rfl)) (hJ7_8_15_16 (a1, v.heap.size, y1, a2, q2) _ ⟨HF.out.alloc (.cells #[.slice (some ⟨a1, 0, none⟩) W W] 79 (0, 0)), HF.out.lit a1, HL2.out.alloc _⟩)
              · skip
                rintro ⟨a1, q1, y1, a2, q2⟩ v ⟨hF, hL1⟩
                dsimp only at hF hL1 ⊢
                clear HF
                have HF := Lib.hid hF
                have HL1 := Lib.hid hL1
                have hHeld : v.cell? ⟨w.heap.size + 1, 2, none⟩ = some V1 ∧ v.cell? ⟨w.heap.size + 1, 3, none⟩ = some V2 := ⟨ckA HF.out.blk 2 _ rfl, ckA HF.out.blk 3 _ rfl⟩
                clear hF hL1
                refine norm_ (a' := ?_) ?_ ?_
                rotate_left
                · simp only [putAll, Act.put, List.setIfInBounds_toArray, List.set_cons_zero, List.set_cons_succ]
                  rfl
                refine two_ (i := 9) (j := 16) (Ni := some 37) (Nj := some 44) #[true, true, true, true, true, true, true, true, true, true, true, true, true, true, true, true, false, false, false, false, false, false, false, false] #[true, true, true, true, true, true, true, true, true, false, true, true, true, true, true, true, true, false, false, false, false, false, false, false] rfl rfl rfl rfl (by kernel_rfl) (by decide) (by decide) (fun K hK => ?_) (fun K hK => ?_)
                · skip
                  refine append_at_step (kP W) (W := v) w.heap.size (by rfl) (.tmp 33) (.tmp 36) 61 79 (.slice none 0 0) 24 rfl undBB (infoBB W) rfl Nat.one_pos (by omega) V1 P a1 [.slice (some ⟨a1, 0, none⟩) W W] q1 (fun _ => True) (fun _ => False) rfl rfl rfl (fun _ hk => hk.elim) (fun _ _ => trivial) HL1.out.1 HF.out.r1 HF.out.lo.size (len24 _ HLP.out.1) ?_
                  intro v9 w9 ho9 hg9 hat9
                  refine hK.out _ _ ⟨ckA (HF.out.app1 (a := a1) (E' := [a2]) (List.Perm.refl _) ho9 hg9 hat9).blk 2 _ rfl, ckA (HF.out.app1 (a := a1) (E' := [a2]) (List.Perm.refl _) ho9 hg9 hat9).blk 3 _ rfl⟩ (fun hHeld => ?_)
                  clear hK K
                  refine norm_ (a' := ?_) ?_ ?_
                  rotate_left
                  · show Act.put _ (some 37) _ = _
                    simp only [Act.put, List.setIfInBounds_toArray, List.set_cons_zero, List.set_cons_succ, i64_w, i32_w]
                    rfl
                  exact norm_ (by first | (simp only [putAll, Act.put, List.setIfInBounds_toArray, List.set_cons_zero, List.set_cons_succ]; done) | (simp only [putAll, Act.put, List.setIfInBounds_toArray, List.set_cons_zero, List.set_cons_succ]; rfl)) (hJ7_8_9_15 (a1, q1, v9, a2, q2) _ (HF.out.app1 (a := a1) (E' := [a2]) (List.Perm.refl _) ho9 hg9 hat9))
                · skip
                  refine value_ (w1 := ?_) (v := ?_) (by rfl) rfl ?_ ?_
                  rotate_left 2
                  · go_simp
                    constructor
                    · rfl
                    · rfl
                  refine hK.out _ _ ⟨ckA (HF.out.alloc (.cells #[.slice (some ⟨a2, 0, none⟩) W W] 79 (0, 0))).blk 2 _ rfl, ckA (HF.out.alloc (.cells #[.slice (some ⟨a2, 0, none⟩) W W] 79 (0, 0))).blk 3 _ rfl⟩ (fun hHeld => ?_)
                  clear hK K
                  refine norm_ (a' := ?_) ?_ ?_
                  rotate_left
                  · show Act.put _ (some 44) _ = _
                    simp only [Act.put, List.setIfInBounds_toArray, List.set_cons_zero, List.set_cons_succ, i64_w, i32_w]
                    rfl
                  exact norm_ (by first | (simp only [putAll, Act.put, List.setIfInBounds_toArray, List.set_cons_zero, List.set_cons_succ]; done) | (simp only [putAll, Act.put, List.setIfInBounds_toArray, List.set_cons_zero, List.set_cons_succ]; rfl)) (hJ7_8_15_16 (a1, q1, y1, a2, v.heap.size) _ ⟨HF.out.alloc (.cells #[.slice (some ⟨a2, 0, none⟩) W W] 79 (0, 0)), HL1.out.alloc _, HF.out.lit a2⟩)
            · skip
              rintro ⟨a1, q1, y1, a2, q2⟩ v hF
              dsimp only at hF ⊢
              clear HF
              have HF := Lib.hid hF
              have hHeld : v.cell? ⟨w.heap.size + 1, 2, none⟩ = some V1 ∧ v.cell? ⟨w.heap.size + 1, 3, none⟩ = some V2 := ⟨ckA HF.out.blk 2 _ rfl, ckA HF.out.blk 3 _ rfl⟩
              clear hF
              refine norm_ (a' := ?_) ?_ ?_
              rotate_left
              · simp only [putAll, Act.put, List.setIfInBounds_toArray, List.set_cons_zero, List.set_cons_succ]
                rfl
              refine one_ (i := 15) (N := some 43) #[true, true, true, true, true, true, true, true, true, true, true, true, true, true, true, true, false, false, false, false, false, false, false, false] rfl rfl (by kernel_rfl) (by decide) (fun K hK => ?_)
              refine value_ (w1 := ?_) (v := ?_) (by rfl) rfl ?_ ?_
              rotate_left 2
              · go_simp
                constructor
                · rfl
                · rfl
              refine hK.out _ _ ⟨ckA (HF.out.mk' (E' := [v.heap.size]) (List.Perm.refl _)).blk 2 _ rfl, ckA (HF.out.mk' (E' := [v.heap.size]) (List.Perm.refl _)).blk 3 _ rfl⟩ (fun hHeld => ?_)
              clear hK K
              refine norm_ (a' := ?_) ?_ ?_
              rotate_left
              · show Act.put _ (some 43) _ = _
                simp only [Act.put, List.setIfInBounds_toArray, List.set_cons_zero, List.set_cons_succ, i64_w, i32_w]
                rfl
              exact norm_ (by first | (simp only [putAll, Act.put, List.setIfInBounds_toArray, List.set_cons_zero, List.set_cons_succ]; done) | (simp only [putAll, Act.put, List.setIfInBounds_toArray, List.set_cons_zero, List.set_cons_succ]; rfl)) (hJ7_8_9_15 (a1, q1, y1, v.heap.size, q2) _ (HF.out.mk' (E' := [v.heap.size]) (List.Perm.refl _)))
          · skip
            rintro ⟨a1, q1, y1, a2, q2⟩ v ⟨hF, hL1, hL2⟩
            dsimp only at hF hL1 hL2 ⊢
            clear HF
            have HF := Lib.hid hF
            have HL1 := Lib.hid hL1
            have HL2 := Lib.hid hL2
            have hHeld : v.cell? ⟨w.heap.size + 1, 2, none⟩ = some V1 ∧ v.cell? ⟨w.heap.size + 1, 3, none⟩ = some V2 := ⟨ckA HF.out.blk 2 _ rfl, ckA HF.out.blk 3 _ rfl⟩
            clear hF hL1 hL2
            refine norm_ (a' := ?_) ?_ ?_
            rotate_left
            · simp only [putAll, Act.put, List.setIfInBounds_toArray, List.set_cons_zero, List.set_cons_succ]
              rfl
            refine one_ (i := 9) (N := some 37) #[true, true, true, true, true, true, true, true, true, true, true, true, true, true, true, true, true, false, false, false, false, false, false, false] rfl rfl (by kernel_rfl) (by decide) (fun K hK => ?_)
            refine append_at_step (kP W) (W := v) w.heap.size (by rfl) (.tmp 33) (.tmp 36) 61 79 (.slice none 0 0) 24 rfl undBB (infoBB W) rfl Nat.one_pos (by omega) V1 P a1 [.slice (some ⟨a1, 0, none⟩) W W] q1 (fun _ => True) (fun _ => False) rfl rfl rfl (fun _ hk => hk.elim) (fun _ _ => trivial) HL1.out.1 HF.out.r1 HF.out.lo.size (len24 _ HLP.out.1) ?_
            intro v9 w9 ho9 hg9 hat9
            refine hK.out _ _ ⟨ckA (HF.out.app1 (a := a1) (E' := [a2]) (List.Perm.refl _) ho9 hg9 hat9).blk 2 _ rfl, ckA (HF.out.app1 (a := a1) (E' := [a2]) (List.Perm.refl _) ho9 hg9 hat9).blk 3 _ rfl⟩ (fun hHeld => ?_)
            clear hK K
            refine norm_ (a' := ?_) ?_ ?_
            rotate_left
            · show Act.put _ (some 37) _ = _
              simp only [Act.put, List.setIfInBounds_toArray, List.set_cons_zero, List.set_cons_succ, i64_w, i32_w]
              rfl
            exact norm_ (by first | (simp only [putAll, Act.put, List.setIfInBounds_toArray, List.set_cons_zero, List.set_cons_succ]; done) | (simp only [putAll, Act.put, List.setIfInBounds_toArray, List.set_cons_zero, List.set_cons_succ]; rfl)) (hJ7_8_9_15_16 (a1, q1, v9, a2, q2) _ ⟨HF.out.app1 (a := a1) (E' := [a2]) (List.Perm.refl _) ho9 hg9 hat9, HL2.out.app1 hg9 hat9⟩)
        · skip
          rintro ⟨a1, q1, y1, a2, q2⟩ v hF
          dsimp only at hF ⊢
          clear HF
          have HF := Lib.hid hF
          have hHeld : v.cell? ⟨w.heap.size + 1, 2, none⟩ = some V1 ∧ v.cell? ⟨w.heap.size + 1, 3, none⟩ = some V2 := ⟨ckA HF.out.blk 2 _ rfl, ckA HF.out.blk 3 _ rfl⟩
          clear hF
          refine norm_ (a' := ?_) ?_ ?_
          rotate_left
          · simp only [putAll, Act.put, List.setIfInBounds_toArray, List.set_cons_zero, List.set_cons_succ]
            rfl
          refine one_ (i := 16) (N := some 44) #[true, true, true, true, true, true, true, true, true, true, true, true, true, true, true, true, true, false, false, false, false, false, false, false] rfl rfl (by kernel_rfl) (by decide) (fun K hK => ?_)
          refine value_ (w1 := ?_) (v := ?_) (by rfl) rfl ?_ ?_
          rotate_left 2
          · go_simp
            constructor
            · rfl
            · rfl
          refine hK.out _ _ ⟨ckA (HF.out.alloc (.cells #[.slice (some ⟨a2, 0, none⟩) W W] 79 (0, 0))).blk 2 _ rfl, ckA (HF.out.alloc (.cells #[.slice (some ⟨a2, 0, none⟩) W W] 79 (0, 0))).blk 3 _ rfl⟩ (fun hHeld => ?_)
          clear hK K
          refine norm_ (a' := ?_) ?_ ?_
          rotate_left
          · show Act.put _ (some 44) _ = _
            simp only [Act.put, List.setIfInBounds_toArray, List.set_cons_zero, List.set_cons_succ, i64_w, i32_w]
            rfl
          exact norm_ (by first | (simp only [putAll, Act.put, List.setIfInBounds_toArray, List.set_cons_zero, List.set_cons_succ]; done) | (simp only [putAll, Act.put, List.setIfInBounds_toArray, List.set_cons_zero, List.set_cons_succ]; rfl)) (hJ7_8_9_15_16 (a1, q1, y1, a2, v.heap.size) _ ⟨HF.out.alloc (.cells #[.slice (some ⟨a2, 0, none⟩) W W] 79 (0, 0)), HF.out.lit a2⟩)
      rintro ⟨a1, q1, y1, a2, q2⟩ v ⟨hF, hL2⟩
      dsimp only at hF hL2 ⊢
      clear HF
      have HF := Lib.hid hF
      have HL2 := Lib.hid hL2
      have hHeld : v.cell? ⟨w.heap.size + 1, 2, none⟩ = some V1 ∧ v.cell? ⟨w.heap.size + 1, 3, none⟩ = some V2 := ⟨ckA HF.out.blk 2 _ rfl, ckA HF.out.blk 3 _ rfl⟩
      clear hF hL2
      refine norm_ (a' := ?_) ?_ ?_
      rotate_left
      · simp only [putAll, Act.put, List.setIfInBounds_toArray, List.set_cons_zero, List.set_cons_succ]
        rfl
      refine one_ (i := 17) (N := some 45) #[true, true, true, true, true, true, true, true, true, true, true, true, true, true, true, true, true, true, false, false, false, false, false, false] rfl rfl (by kernel_rfl) (by decide) (fun K hK => ?_)
      refine append_at_step (kP W) (W := v) w.heap.size (by rfl) (.tmp 41) (.tmp 44) 61 79 (.slice none 0 0) 24 rfl undBB (infoBB W) rfl Nat.one_pos (by omega) V2 T a2 [.slice (some ⟨a2, 0, none⟩) W W] q2 (fun _ => True) (fun _ => False) rfl rfl rfl (fun _ hk => hk.elim) (fun _ _ => trivial) HL2.out.1 HF.out.r2 HF.out.lo.size (len24 _ HLP.out.2) ?_
      intro v9 w9 ho9 hg9 hat9
      refine hK.out _ _ ⟨ckA (HF.out.app2 (a := a2) (E' := []) (List.Perm.refl _) ho9 hg9 hat9).blk 2 _ rfl, ckA (HF.out.app2 (a := a2) (E' := []) (List.Perm.refl _) ho9 hg9 hat9).blk 3 _ rfl⟩ (fun hHeld => ?_)
      clear hK K
      refine norm_ (a' := ?_) ?_ ?_
      rotate_left
      · show Act.put _ (some 45) _ = _
        simp only [Act.put, List.setIfInBounds_toArray, List.set_cons_zero, List.set_cons_succ, i64_w, i32_w]
        rfl
      refine pure_ (i := 18) (N := some 46) (v := ?_) (a' := ?_) #[true, true, true, true, true, true, true, true, true, true, true, true, true, true, true, true, true, true, true, false, false, false, false, false] rfl rfl (by kernel_rfl) (fun _ _ _ h => h) (Or.inl ⟨by rfl, ?_⟩) ?_ ?_
      rotate_left
      · intro w'
        go_simp
        with_reducible rfl
      rotate_left
      · simp only [Act.put, List.setIfInBounds_toArray, List.set_cons_zero, List.set_cons_succ, i64_w, i32_w]
        rfl
      refine pure_ (i := 19) (N := some 47) (v := ?_) (a' := ?_) #[true, true, true, true, true, true, true, true, true, true, true, true, true, true, true, true, true, true, true, true, false, false, false, false] rfl rfl (by kernel_rfl) (fun _ _ _ h => h) (Or.inl ⟨by rfl, ?_⟩) ?_ ?_
      rotate_left
      · intro w'
        go_simp
        with_reducible rfl
      rotate_left
      · simp only [Act.put, List.setIfInBounds_toArray, List.set_cons_zero, List.set_cons_succ, i64_w, i32_w]
        rfl
      refine last_ (i := 20) (N := none) #[true, true, true, true, true, true, true, true, true, true, true, true, true, true, true, true, true, true, true, true, true, false, false, false] rfl rfl (by kernel_rfl) (by decide) (fun K hK => ?_)
      have HN9 := Lib.hid (HF.out.app2 (a := a2) (E' := []) (List.Perm.refl _) ho9 hg9 hat9)
      clear ho9 hg9 hat9 HF HL2
      obtain ⟨A1, k1, rfl⟩ := Kd.R_slice HN9.out.r1
      obtain ⟨A2, k2, rfl⟩ := Kd.R_slice HN9.out.r2
      have hl1 : (P ++ [a1]).length = P.length + 1 := List.length_append
      have hl2 : (T ++ [a2]).length = T.length + 1 := List.length_append
      rw [hl1, hl2] at HN9
      clear hl1 hl2
      have c2 := ckA HN9.out.blk 2 _ rfl
      have c3 := ckA HN9.out.blk 3 _ rfl
      have f2 := free_of_one HN9.out.blk 2
      have f3 := free_of_one HN9.out.blk 3
      refine skip_ (w1 := ?_) (by rfl) rfl ?_ ?_
      rotate_left
      · go_simp
        rfl
      refine hK.out _ _ ?_
      clear hK K
      refine pure_ (i := 21) (N := some 48) (v := ?_) (a' := ?_) #[true, true, true, true, true, true, true, true, true, true, true, true, true, true, true, true, true, true, true, true, true, true, false, false] rfl rfl (by kernel_rfl) (fun _ _ _ h => h) (Or.inl ⟨by rfl, ?_⟩) ?_ ?_
      rotate_left
      · intro w'
        go_simp
        with_reducible rfl
      rotate_left
      · simp only [Act.put, List.setIfInBounds_toArray, List.set_cons_zero, List.set_cons_succ, i64_w, i32_w]
        rfl
      refine pure_ (i := 22) (N := some 49) (v := ?_) (a' := ?_) #[true, true, true, true, true, true, true, true, true, true, true, true, true, true, true, true, true, true, true, true, true, true, true, false] rfl rfl (by kernel_rfl) (fun _ _ _ h => h) (Or.inl ⟨by rfl, ?_⟩) ?_ ?_
      rotate_left
      · intro w'
        go_simp
        with_reducible rfl
      rotate_left
      · simp only [Act.put, List.setIfInBounds_toArray, List.set_cons_zero, List.set_cons_succ, i64_w, i32_w]
        rfl
      refine last_ (i := 23) (N := none) #[true, true, true, true, true, true, true, true, true, true, true, true, true, true, true, true, true, true, true, true, true, true, true, true] rfl rfl (by kernel_rfl) (by decide) (fun K hK => ?_)
      refine skip_ (w1 := ?_) (by rfl) rfl ?_ ?_
      rotate_left
      · go_simp
        rfl
      refine hK.out _ _ ?_
      clear hK K
      refine done_ (by kernel_rfl) ?_
      have HN2 := Lib.hid ((HN9.out.set 2 (.slice A1 (P.length + 1) k1) (d1 := .slice A1 (P.length + 1) k1) (d2 := V2) rfl).set 3 (.slice A2 (T.length + 1) k2) (d1 := .slice A1 (P.length + 1) k1) (d2 := (.slice A2 (T.length + 1) k2)) rfl)
      clear HN9 c2 c3 f2 f3 hHeld x2 x3
      generalize (w9.setCell ⟨w.heap.size + 1, 2, none⟩ (.slice A1 (P.length + 1) k1)).setCell ⟨w.heap.size + 1, 3, none⟩ (.slice A2 (T.length + 1) k2) = wz at HN2 ⊢
      obtain ⟨e1, e2⟩ := HE1.out
      go_wp2
      cases gk with
      | zero => exact absurd HK.out (by have := HC0.out; omega)
      | succ kk =>
        go_roundg kk
        case measure => omega
        case rel =>
          clear e1 e2
          exact ⟨k + 1, (.slice A1 (P.length + 1) k1), (.slice A2 (T.length + 1) k2), P ++ [a1], T ++ [a2], by first | rw [HE1.out.2] | rfl, by have := HK.out; omega, HC0.out, by rw [List.length_append, HK.out.2.2.1]; rfl, by rw [List.length_append, HK.out.2.2.2]; rfl, HN2.out⟩
    · have d1 : decide ((k : Int) < (H : Int)) = false := decide_eq_false (by omega)
      have hkk : k = H := by omega
      have HN3 := Lib.hid hN
      clear hk hkH hP hT hN c0 HN0
      go_wp2
      go_ret
      obtain ⟨Q, h1, h2⟩ := HN3.out.at_ (HK.out.2.2.1.trans hkk) (HK.out.2.2.2.trans hkk) HW.out HH.out
      exact ⟨_, Q, rfl, h1, HN3.out.lo, h2⟩
end Go.Proofs.Ytoleencecfjcjaa.At

/- The map's entries, one after the other. -/
set_option linter.unusedVariables false
set_option linter.unusedSimpArgs false
namespace Go.Proofs.Ytoleencecfjcjaa.At
open Go.RowKit Go.Proofs.YtoleencecfjcjaaW.PrintWords Go.Proofs.YtoleencecfjcjaaW.PrintLast Go.Proofs.Ytoleencecfjcjaa.Rng Go.WideMaps Go.WideElems
open Go.ChangeShapes Go.WideShapes Go.MapKept
open Go.ChangeMaps (modify_eq_set setBlock keptBut_setBlock heap_setBlock_same heap_setBlock_other)
theorem perm_lift {α β : Type} (f : α → β) : ∀ (l : List α) (A : List β), A.Perm (l.map f) → ∃ l' : List α, l'.Perm l ∧ A = l'.map f
  | [], A, h => ⟨[], List.Perm.refl _, by simpa using h⟩
  | x :: l, A, h => by
    have hm : f x ∈ A := h.mem_iff.2 (by simp)
    obtain ⟨A1, A2, rfl⟩ := List.append_of_mem hm
    have h1 : (A1 ++ A2).Perm (l.map f) := (List.perm_middle.symm.trans h).cons_inv
    obtain ⟨l'', h2, h3⟩ := perm_lift f l _ h1
    obtain ⟨l1, l2, e, e1, e2⟩ := List.map_eq_append_iff.1 h3.symm
    refine ⟨l1 ++ x :: l2, List.perm_middle.trans ((e ▸ h2).cons x), ?_⟩
    rw [List.map_append, List.map_cons, e1, e2]
/-- The entries, each with its Ex. -/
structure EntX (es : Array MapEntry) (mc : Nat) (l : List Ex) : Prop where
  same : es.toList.map (fun m => (m.key, m.val)) = l.map Ex.kv
  born : ∀ e ∈ es.toList, e.born < mc
  nodup : (es.toList.map (·.born)).Nodup
theorem EntX.of {es : Array MapEntry} {mc : Nat} {l : List Ex} (h : EntsOf es l) (hb : ∀ e ∈ es.toList, e.born < mc) (hn : (es.toList.map (·.born)).Nodup) : ∃ l' : List Ex, l'.Perm l ∧ EntX es mc l' := by
  obtain ⟨l', h1, h2⟩ := perm_lift Ex.kv l _ h
  exact ⟨l', h1, h2, hb, hn⟩
def Zs (es : Array MapEntry) (l : List Ex) : List (MapEntry × Ex) := es.toList.zip l
def leftZ (Z : List (MapEntry × Ex)) (seen : Array Nat) : List (MapEntry × Ex) := Z.filter (fun z => !seen.contains z.1.born)
theorem EntX.size {es : Array MapEntry} {mc : Nat} {l : List Ex} (h : EntX es mc l) : es.toList.length = l.length := by
  have := congrArg List.length h.same
  simpa using this
theorem EntX.fst {es : Array MapEntry} {mc : Nat} {l : List Ex} (h : EntX es mc l) : (Zs es l).map Prod.fst = es.toList := by
  have := h.size
  exact List.map_fst_zip (by omega)
theorem EntX.snd {es : Array MapEntry} {mc : Nat} {l : List Ex} (h : EntX es mc l) : (Zs es l).map Prod.snd = l := by
  have := h.size
  exact List.map_snd_zip (by omega)
theorem zip_same {α β γ : Type} (f : α → γ) (g : β → γ) : ∀ (a : List α) (b : List β), a.map f = b.map g → ∀ z ∈ a.zip b, f z.1 = g z.2
  | [], b, _, z, hz => by simp at hz
  | x :: a, [], h, z, hz => by simp at h
  | x :: a, y :: b, h, z, hz => by
    simp only [List.map_cons, List.cons.injEq] at h
    simp only [List.zip_cons_cons, List.mem_cons] at hz
    rcases hz with rfl | hz
    · exact h.1
    · exact zip_same f g a b h.2 z hz
theorem EntX.zs {es : Array MapEntry} {mc : Nat} {l : List Ex} (h : EntX es mc l) (z : MapEntry × Ex) (hz : z ∈ Zs es l) : z.1.key = .string z.2.e.nm ∧ z.1.val = .pointer (some ⟨z.2.p, 0, none⟩) := by
  have := zip_same _ _ _ _ h.same z hz
  simpa [Ex.kv] using this
theorem left_fst (es : Array MapEntry) (l : List Ex) (mc : Nat) (h : EntX es mc l) (seen : Array Nat) : (leftOf es seen).toList = (leftZ (Zs es l) seen).map Prod.fst := by
  unfold leftOf leftZ
  rw [Array.toList_filter, ← h.fst, List.filter_map]
  rfl
theorem perm_take {α : Type} (f : α → Nat) : ∀ (L : List α), (L.map f).Nodup → ∀ z ∈ L, L.Perm (z :: L.filter (fun y => f y != f z))
  | [], _, z, hz => by simp at hz
  | x :: L, hn, z, hz => by
    simp only [List.map_cons, List.nodup_cons] at hn
    rcases List.mem_cons.1 hz with rfl | hz'
    · have : (z :: L).filter (fun y => f y != f z) = L := by
        rw [List.filter_cons_of_neg (by simp)]
        exact List.filter_eq_self.2 (fun y hy => by simp; exact fun e => hn.1 (e ▸ List.mem_map_of_mem hy))
      rw [this]
    · have hxz : f x ≠ f z := fun e => hn.1 (e ▸ List.mem_map_of_mem hz')
      rw [List.filter_cons_of_pos (by simpa using hxz)]
      exact ((perm_take f L hn.2 z hz').cons x).trans (List.Perm.swap _ _ _)
theorem left_step {es : Array MapEntry} {mc : Nat} {l : List Ex} (h : EntX es mc l) (seen : Array Nat) (e : MapEntry) (he : e ∈ (leftOf es seen).toList) :
    ∃ x ∈ l, e.key = .string x.e.nm ∧ e.val = .pointer (some ⟨x.p, 0, none⟩) ∧ (leftZ (Zs es l) seen).Perm ((e, x) :: leftZ (Zs es l) (seen.push e.born)) := by
  rw [left_fst es l mc h] at he
  obtain ⟨⟨e1, x⟩, hz, rfl⟩ := List.mem_map.1 he
  have hzZ : (e1, x) ∈ Zs es l := (List.mem_filter.1 hz).1
  obtain ⟨h1, h2⟩ := h.zs _ hzZ
  have hnd : ((Zs es l).map (fun z => z.1.born)).Nodup := by
    have := h.nodup
    rw [← h.fst, List.map_map] at this
    exact this
  have hnd2 : ((leftZ (Zs es l) seen).map (fun z => z.1.born)).Nodup := hnd.sublist ((List.filter_sublist).map _)
  refine ⟨x, (by have := List.mem_map_of_mem (f := Prod.snd) hzZ; rw [h.snd] at this; exact this), h1, h2, ?_⟩
  have hp := perm_take (fun z : MapEntry × Ex => z.1.born) _ hnd2 (e1, x) hz
  have hf : (leftZ (Zs es l) seen).filter (fun y => y.1.born != e1.born) = leftZ (Zs es l) (seen.push e1.born) := by
    unfold leftZ
    rw [List.filter_filter]
    refine List.filter_congr (fun z _ => ?_)
    simp only [Array.contains_push]
    cases (seen.contains z.1.born) <;> simp [bne, Bool.beq_comm]
  rw [← hf]
  exact hp
theorem left_none {es : Array MapEntry} {mc : Nat} {l : List Ex} (h : EntX es mc l) (seen : Array Nat) (h0 : (leftOf es seen).size = 0) : leftZ (Zs es l) seen = [] := by
  have := left_fst es l mc h seen
  have hn : (leftOf es seen).toList = [] := by rw [← List.length_eq_zero_iff]; simpa using h0
  rw [hn] at this
  simpa using this.symm
section
variable {P : Program} (w : World) {ops : Array Oper} {rest : List Oper} {o : Oper} {a : Act} {Q : Exit → Act → World → Prop}
theorem wpl_range (hg : o.guard = none) (m : Operand) (t : TypeId) (hop : o.op = Op.range t m) (k e : TypeId) (ht : P.underlying t = some (.map k e)) (b : Nat) (es : Array MapEntry) (clock : Nat) (hb : w.heap[b]? = some (.map es clock))
    (hm : a.eval m = .map (some b)) (hK : wpList P ops Q rest (a.put o.dst (.pointer (some ⟨w.heap.size, 0, none⟩))) (w.alloc (.mapIter (some b) clock #[] clock))) : wpList P ops Q (o :: rest) a w := by
  refine wpList_plain hg fun K' hK' => ?_
  unfold Oper.wp
  simp [execOp, hop, hm, run_range_map w t k e b es clock ht hb, Result.andThen, -World.alloc_eq]
  exact hK' _ _ hK
theorem wpl_next (hg : o.guard = none) (it : Operand) (hop : o.op = Op.next it false) (r b since c0 : Nat) (seen : Array Nat) (es : Array MapEntry) (clock : Nat) (hit : a.eval it = .pointer (some ⟨r, 0, none⟩))
    (hr : w.heap[r]? = some (.mapIter (some b) since seen c0)) (hb : w.heap[b]? = some (.map es clock)) (hold : ∀ x ∈ es.toList, x.born < since) (hsc : since ≤ c0)
    (hDone : (leftOf es seen).size = 0 → wpList P ops Q rest (a.put o.dst (.tuple #[.bool false])) w)
    (hMore : ∀ e ∈ (leftOf es seen).toList, ∀ w1 : World, (w1 = w ∨ w1 = w.drew) → wpList P ops Q rest (a.put o.dst (.tuple #[.bool true, e.key, e.val])) (setBlock w1 r (.mapIter (some b) since (seen.push e.born) clock))) :
    wpList P ops Q (o :: rest) a w := by
  refine wpList_plain hg fun K' hK' => ?_
  unfold Oper.wp
  rcases run_next_at (P := P) w o.type r b since c0 seen es clock hr hb hold hsc with ⟨h0, hrun⟩ | ⟨e, he, w1, hw1, hrun⟩
  · simp [execOp, hop, hit, hrun, Result.andThen]
    exact hK' _ _ (hDone h0)
  · simp [execOp, hop, hit, hrun, Result.andThen]
    exact hK' _ _ (hMore e he w1 hw1)
end
theorem heap_set {w : World} {r : Nat} {o0 : Obj} (hr : w.heap[r]? = some o0) (o : Obj) : (setBlock w r o).heap[r]? = some o ∧ ∀ i, i ≠ r → (setBlock w r o).heap[i]? = w.heap[i]? := by
  have hlt := lt_of_blk hr
  refine ⟨?_, fun i hi => ?_⟩
  · simp [ChangeMaps.setBlock, hlt]
  · simp [ChangeMaps.setBlock, Array.getElem?_set, hi, Ne.symm hi]
/-- One entry more has been drawn. -/
theorem next_world {w wr w1 : World} {b mc c0 B it : Nat} {seen : Array Nat} {es : Array MapEntry} {l X : List Ex} {v : Value} (hw1 : w1 = wr ∨ w1 = wr.drew) (hit : wr.heap[it]? = some (.mapIter (some b) mc seen c0)) (hm : wr.heap[b]? = some (.map es mc)) (hbi : b < B) (hBi : B ≤ it)
    (hrow : Kd.R Kd.string 9 wr B (fun k => k ≠ it) v (X.map (fun x => x.e.nm))) (hb : Below B w wr) (hE : EntX es mc l) (e : MapEntry) (he : e ∈ (leftOf es seen).toList) :
    ∃ wq x, setBlock w1 it (.mapIter (some b) mc (seen.push e.born) mc) = wq ∧ x ∈ l ∧ e.key = .string x.e.nm ∧ e.val = .pointer (some ⟨x.p, 0, none⟩) ∧ (leftZ (Zs es l) seen).Perm ((e, x) :: leftZ (Zs es l) (seen.push e.born)) ∧ wq.heap[it]? = some (.mapIter (some b) mc (seen.push e.born) mc)
      ∧ Kd.R Kd.string 9 wq B (fun k => k ≠ it) v (X.map (fun x => x.e.nm)) ∧ Below B w wq ∧ (Instr.entry (.pointer (some ⟨it, 0, none⟩))).run Try.prog wq = .ok (.tuple #[.string x.e.nm, .pointer (some ⟨x.p, 0, none⟩)]) wq := by
  obtain ⟨x, hx, h1, h2, h3⟩ := left_step hE seen e he
  have hit1 : w1.heap[it]? = some (.mapIter (some b) mc seen c0) := by rcases hw1 with rfl | rfl <;> exact hit
  have hb1 : Below B w w1 := by
    rcases hw1 with rfl | rfl
    · exact hb
    · exact hb.drew
  have hs1 : w1.heap.size = wr.heap.size := by rcases hw1 with rfl | rfl <;> rfl
  have hk1 : ∀ i : Nat, w1.heap[i]? = wr.heap[i]? := by
    intro i
    rcases hw1 with rfl | rfl
    · rfl
    · rfl
  obtain ⟨ha, ho⟩ := heap_set hit1 (.mapIter (some b) mc (seen.push e.born) mc)
  have hzq : (setBlock w1 it (.mapIter (some b) mc (seen.push e.born) mc)).heap.size = w1.heap.size := by simp [ChangeMaps.setBlock]
  have hmq : (setBlock w1 it (.mapIter (some b) mc (seen.push e.born) mc)).heap[b]? = some (.map es mc) := (ho b (by omega)).trans ((hk1 b).trans hm)
  have hmem : e ∈ es.toList := by
    unfold leftOf at he
    simp at he
    simpa using he.1
  refine ⟨_, x, rfl, hx, h1, h2, h3, ha, Kd.R_kept (S := fun k => k = it) hrow ⟨by rw [hzq, hs1]; exact Nat.le_refl _, fun i _ hi => (ho i hi).trans (hk1 i)⟩ (fun k hk => hk), ⟨hb1.os, hb1.tape, hb1.output, by rw [hzq]; exact hb1.size, fun i hi => (ho i (by omega)).trans (hb1.block i hi)⟩, ?_⟩
  rw [← h1, ← h2]
  exact run_entry_at _ it b mc seen es mc e ha hmq hmem hE.nodup
theorem perm_next {α : Type} {Z Z' : List (α × Ex)} {e : α} {x : Ex} {X l : List Ex} (hp : Z.Perm ((e, x) :: Z')) (h : (X ++ Z.map Prod.snd).Perm l) : ((X ++ [x]) ++ Z'.map Prod.snd).Perm l := by
  have h1 := hp.map Prod.snd
  have h2 := (h1.append_left X).symm.trans h
  simpa using h2
theorem len_next {α : Type} {Z Z' : List (α × Ex)} {e : α} {x : Ex} (hp : Z.Perm ((e, x) :: Z')) : Z.length = Z'.length + 1 := by
  have h1 := hp.length_eq
  simpa using h1
end Go.Proofs.Ytoleencecfjcjaa.At

/- The shelf's contract for slices.SortFunc, laid over this program's numbers. -/
set_option linter.unusedVariables false
namespace Go.Proofs.Ytoleencecfjcjaa.Srt
open Go.Shelf Go.RowKit
def nums : Ren := ⟨fun n => match n with | 6 => 44 | 14 => 59 | 15 => 60 | 20 => 65 | 21 => 66 | 22 => 67 | 23 => 68 | 24 => 69 | 25 => 70 | 26 => 71 | 27 => 72 | 28 => 73 | 29 => 55 | 46 => 76 | 47 => 77 | 48 => 78 | 49 => 79 | 50 => 80 | 57 => 82 | _ => 0, fun n => match n with | 0 => 0 | 3 => 3 | 4 => 4 | 5 => 5 | 9 => 9 | 22 => 46 | 24 => 9 | 25 => 103 | 39 => 35 | 45 => 120 | 46 => 121 | 50 => 125 | 53 => 128 | 55 => 92 | 66 => 137 | 70 => 141 | 76 => 144 | 77 => 25 | _ => 0, fun n => n⟩
set_option maxRecDepth 100000 in
theorem lays : SlLaysF.n6 Try.prog nums := {
  mixed := by kernel_rfl,
  f6 := ⟨"slices.SortFunc[[]string,string]", by kernel_rfl, by kernel_rfl⟩,
  f14 := ⟨"slices.pdqsortCmpFunc[string]", by kernel_rfl, by kernel_rfl⟩,
  f15 := by kernel_rfl,
  f20 := ⟨"slices.insertionSortCmpFunc[string]", by kernel_rfl, by kernel_rfl⟩,
  f21 := ⟨"slices.heapSortCmpFunc[string]", by kernel_rfl, by kernel_rfl⟩,
  f22 := ⟨"slices.breakPatternsCmpFunc[string]", by kernel_rfl, by kernel_rfl⟩,
  f23 := ⟨"slices.choosePivotCmpFunc[string]", by kernel_rfl, by kernel_rfl⟩,
  f24 := ⟨"slices.reverseRangeCmpFunc[string]", by kernel_rfl, by kernel_rfl⟩,
  f25 := ⟨"slices.partialInsertionSortCmpFunc[string]", by kernel_rfl, by kernel_rfl⟩,
  f26 := ⟨"slices.partitionEqualCmpFunc[string]", by kernel_rfl, by kernel_rfl⟩,
  f27 := ⟨"slices.partitionCmpFunc[string]", by kernel_rfl, by kernel_rfl⟩,
  f28 := by kernel_rfl,
  f29 := by kernel_rfl,
  f46 := ⟨"slices.siftDownCmpFunc[string]", by kernel_rfl, by kernel_rfl⟩,
  f47 := by kernel_rfl,
  f48 := by kernel_rfl,
  f49 := ⟨"slices.medianAdjacentCmpFunc[string]", by kernel_rfl, by kernel_rfl⟩,
  f50 := ⟨"slices.medianCmpFunc[string]", by kernel_rfl, by kernel_rfl⟩,
  f57 := ⟨"slices.order2CmpFunc[string]", by kernel_rfl, by kernel_rfl⟩,
  t0 := by kernel_rfl,
  a0 := fun _ => by kernel_rfl,
  z0 := fun _ => by kernel_rfl,
  v0 := fun _ => by kernel_rfl,
  t3 := by kernel_rfl,
  a3 := fun _ => by kernel_rfl,
  z3 := fun _ => by kernel_rfl,
  v3 := fun _ => by kernel_rfl,
  t4 := by kernel_rfl,
  a4 := fun _ => by kernel_rfl,
  z4 := fun _ => by kernel_rfl,
  v4 := fun _ => by kernel_rfl,
  t5 := by kernel_rfl,
  a5 := fun _ => by kernel_rfl,
  z5 := fun _ => by kernel_rfl,
  v5 := fun _ => by kernel_rfl,
  t9 := by kernel_rfl,
  a9 := fun _ => by kernel_rfl,
  z9 := fun _ => by kernel_rfl,
  v9 := fun _ => by kernel_rfl,
  t22 := by kernel_rfl,
  a22 := fun _ => by kernel_rfl,
  z22 := fun _ => by kernel_rfl,
  v22 := fun _ => by kernel_rfl,
  a24 := fun _ => by kernel_rfl,
  z24 := fun _ => by kernel_rfl,
  t25 := by kernel_rfl,
  a25 := fun _ => by kernel_rfl,
  z25 := fun _ => by kernel_rfl,
  v25 := fun _ => by kernel_rfl,
  t39 := by kernel_rfl,
  a39 := fun _ => by kernel_rfl,
  z39 := fun _ => by kernel_rfl,
  v39 := fun _ => by kernel_rfl,
  t45 := by kernel_rfl,
  a45 := fun _ => by kernel_rfl,
  z45 := fun _ => by kernel_rfl,
  v45 := fun _ => by kernel_rfl,
  t46 := by kernel_rfl,
  a46 := fun _ => by kernel_rfl,
  z46 := fun _ => by kernel_rfl,
  v46 := fun _ => by kernel_rfl,
  t50 := by kernel_rfl,
  a50 := fun _ => by kernel_rfl,
  z50 := fun _ => by kernel_rfl,
  v50 := fun _ => by kernel_rfl,
  t53 := by kernel_rfl,
  a53 := fun _ => by kernel_rfl,
  z53 := fun _ => by kernel_rfl,
  v53 := fun _ => by kernel_rfl,
  t55 := by kernel_rfl,
  a55 := fun _ => by kernel_rfl,
  z55 := fun _ => by kernel_rfl,
  v55 := fun _ => by kernel_rfl,
  t66 := by kernel_rfl,
  a66 := fun _ => by kernel_rfl,
  z66 := fun _ => by kernel_rfl,
  v66 := fun _ => by kernel_rfl,
  t70 := by kernel_rfl,
  a70 := fun _ => by kernel_rfl,
  z70 := fun _ => by kernel_rfl,
  v70 := fun _ => by kernel_rfl,
  t76 := by kernel_rfl,
  a76 := fun _ => by kernel_rfl,
  z76 := fun _ => by kernel_rfl,
  v76 := fun _ => by kernel_rfl,
  t77 := by kernel_rfl,
  a77 := fun _ => by kernel_rfl,
  z77 := fun _ => by kernel_rfl,
  v77 := fun _ => by kernel_rfl }
end Go.Proofs.Ytoleencecfjcjaa.Srt


/- The names in the order of use: the sort. -/
set_option linter.unusedVariables false
set_option linter.unusedSimpArgs false
namespace Go.Proofs.Ytoleencecfjcjaa.At
open Go.RowKit Go.Proofs.YtoleencecfjcjaaW.PrintWords Go.Proofs.YtoleencecfjcjaaW.PrintLast Go.Proofs.Ytoleencecfjcjaa.Rng
open Go.Shelf Go.Sort
/-- What the comparison reads. -/
structure CmpW (g b bx : Nat) (A : Array Value) (o : Obj) (l : List Ex) (W : World) : Prop where
  box : W.heap[bx]? = some (.cells #[.pointer (some ⟨g, 0, none⟩)] 27 (0, 0))
  blk : W.heap[g]? = some (.cells A 64 (0, 0))
  a4 : A[4]? = some (.map (some b))
  map : W.heap[b]? = some o
  ent : ∀ x ∈ l, W.heap[x.p]? = some (.cells x.cells 94 (0, 0))
theorem CmpW.keep {g b bx : Nat} {A : Array Value} {o : Obj} {l : List Ex} {W W' : World} (h : CmpW g b bx A o l W) (hk : ∀ k, (k = bx ∨ k = g ∨ k = b ∨ ∃ x ∈ l, k = x.p) → W'.heap[k]? = W.heap[k]?) : CmpW g b bx A o l W' :=
  ⟨(hk bx (.inl rfl)).trans h.box, (hk g (.inr (.inl rfl))).trans h.blk, h.a4, (hk b (.inr (.inr (.inl rfl)))).trans h.map, fun x hx => (hk x.p (.inr (.inr (.inr ⟨x, hx, rfl⟩)))).trans (h.ent x hx)⟩
set_option maxHeartbeats 2000000 in
set_option maxRecDepth 100000 in
theorem cmp_c {g b bx : Nat} {A : Array Value} {o : Obj} {l : List Ex} {W : World} (h : CmpW g b bx A o l W) (x y : Ex) (hx : x ∈ l) (hy : y ∈ l) (hl : ∀ V : World, V.heap[b]? = some o → ∀ x ∈ l, (Instr.lookup 62 (.map (some b)) (.string x.e.nm) false).run Try.prog V = .ok (.pointer (some ⟨x.p, 0, none⟩)) V) (hu : ∀ x ∈ l, x.us ≤ 1000000) :
    Calls Try.prog 45 #[.string x.e.nm, .string y.e.nm, .pointer (some ⟨bx, 0, none⟩)] W fun e w' => e = .returned (.int .i64 ((x.us : Int) - (y.us : Int))) ∧ ∃ q os', w' = grow (W.drewN q) os' := by
  obtain ⟨d, hd⟩ : ∃ d, d = (x.us : Int) - (y.us : Int) := ⟨_, rfl⟩
  have HD := Lib.hid (show IntKind.i64.wrap ((x.us : Int) - (y.us : Int)) = d ∧ wrap64 ((x.us : Int) - (y.us : Int)) = d from by
    have h1 := hu x hx
    have h2 := hu y hy
    constructor
    · rw [IntKind.wrap_i64, hd]; omega
    · unfold wrap64; rw [hd]; omega)
  rw [← hd]
  have x0 : W.drew.cell? ⟨bx, 0, none⟩ = some (.pointer (some ⟨g, 0, none⟩)) := ckA h.box 0 _ rfl
  have x1 : W.drew.cell? ⟨g, 4, none⟩ = some (.map (some b)) := ckA h.blk 4 _ h.a4
  have x2 := hl W.drew h.map x hx
  have x3 := hl W.drew h.map y hy
  have x4 : W.drew.cell? ⟨x.p, 6, none⟩ = some (.int .i64 (x.us : Int)) := ckA (h.ent x hx) 6 _ rfl
  have x5 : W.drew.cell? ⟨y.p, 6, none⟩ = some (.int .i64 (y.us : Int)) := ckA (h.ent y hy) 6 _ rfl
  obtain ⟨d1, d2⟩ := HD.out
  clear h hl hu hd hx hy
  go_enter Try.func45, Try.ntmps45
  go_upto_region 1 with fail
  refine start_ (n := 20) (S := fun w' => w'.cell? ⟨bx, 0, none⟩ = some (.pointer (some ⟨g, 0, none⟩)) ∧ w'.cell? ⟨g, 4, none⟩ = some (.map (some b)) ∧ (Instr.lookup 62 (.map (some b)) (.string x.e.nm) false).run Try.prog w' = .ok (.pointer (some ⟨x.p, 0, none⟩)) w' ∧ (Instr.lookup 62 (.map (some b)) (.string y.e.nm) false).run Try.prog w' = .ok (.pointer (some ⟨y.p, 0, none⟩)) w' ∧ w'.cell? ⟨x.p, 6, none⟩ = some (.int .i64 (x.us : Int)) ∧ w'.cell? ⟨y.p, 6, none⟩ = some (.int .i64 (y.us : Int))) (ds := []) #[false, false, false, false, false, false, false, false, false, false, false, false, false, false, false, false, false, false, false, false] (by kernel_rfl) rfl rfl ⟨x0, x1, x2, x3, x4, x5⟩ (fun hHeld => ?_)
  refine pure_ (i := 4) (N := some 10) (v := ?_) (a' := ?_) #[false, false, false, false, true, false, false, false, false, false, false, false, false, false, false, false, false, false, false, false] rfl rfl (by kernel_rfl) (fun _ _ _ h => h) (Or.inl ⟨by rfl, ?_⟩) ?_ ?_
  rotate_left
  · intro w'
    go_simp
    with_reducible rfl
  rotate_left
  · simp only [Act.put, List.setIfInBounds_toArray, List.set_cons_zero, List.set_cons_succ, i64_w, i32_w]
    rfl
  refine pure_ (i := 13) (N := some 19) (v := ?_) (a' := ?_) #[false, false, false, false, true, false, false, false, false, false, false, false, false, true, false, false, false, false, false, false] rfl rfl (by kernel_rfl) (fun _ _ _ h => h) (Or.inl ⟨by rfl, ?_⟩) ?_ ?_
  rotate_left
  · intro w'
    go_simp
    with_reducible rfl
  rotate_left
  · simp only [Act.put, List.setIfInBounds_toArray, List.set_cons_zero, List.set_cons_succ, i64_w, i32_w]
    rfl
  refine take_ (i := 0) (N := some 6) (v := ?_) (a' := ?_) #[true, false, false, false, true, false, false, false, false, false, false, false, false, true, false, false, false, false, false, false] rfl rfl (by kernel_rfl) (fun _ _ _ h => h) (Or.inl ⟨by rfl, ?_⟩) hHeld ?_ ?_
  rotate_left
  · rintro w' ⟨s0, s1, s2, s3, s4, s5⟩
    go_simp
    with_reducible rfl
  rotate_left
  · simp only [Act.put, List.setIfInBounds_toArray, List.set_cons_zero, List.set_cons_succ, i64_w, i32_w]
    rfl
  refine pure_ (i := 1) (N := some 7) (v := ?_) (a' := ?_) #[true, true, false, false, true, false, false, false, false, false, false, false, false, true, false, false, false, false, false, false] rfl rfl (by kernel_rfl) (fun _ _ _ h => h) (Or.inl ⟨by rfl, ?_⟩) ?_ ?_
  rotate_left
  · intro w'
    go_simp
    with_reducible rfl
  rotate_left
  · simp only [Act.put, List.setIfInBounds_toArray, List.set_cons_zero, List.set_cons_succ, i64_w, i32_w]
    rfl
  refine pure_ (i := 2) (N := some 8) (v := ?_) (a' := ?_) #[true, true, true, false, true, false, false, false, false, false, false, false, false, true, false, false, false, false, false, false] rfl rfl (by kernel_rfl) (fun _ _ _ h => h) (Or.inl ⟨by rfl, ?_⟩) ?_ ?_
  rotate_left
  · intro w'
    go_simp
    with_reducible rfl
  rotate_left
  · simp only [Act.put, List.setIfInBounds_toArray, List.set_cons_zero, List.set_cons_succ, i64_w, i32_w]
    rfl
  refine take_ (i := 3) (N := some 9) (v := ?_) (a' := ?_) #[true, true, true, true, true, false, false, false, false, false, false, false, false, true, false, false, false, false, false, false] rfl rfl (by kernel_rfl) (fun _ _ _ h => h) (Or.inl ⟨by rfl, ?_⟩) hHeld ?_ ?_
  rotate_left
  · rintro w' ⟨s0, s1, s2, s3, s4, s5⟩
    go_simp
    with_reducible rfl
  rotate_left
  · simp only [Act.put, List.setIfInBounds_toArray, List.set_cons_zero, List.set_cons_succ, i64_w, i32_w]
    rfl
  refine take_ (i := 5) (N := some 11) (v := ?_) (a' := ?_) #[true, true, true, true, true, true, false, false, false, false, false, false, false, true, false, false, false, false, false, false] rfl rfl (by kernel_rfl) (fun _ _ _ h => h) (Or.inl ⟨by rfl, ?_⟩) hHeld ?_ ?_
  rotate_left
  · rintro w' ⟨s0, s1, s2, s3, s4, s5⟩
    go_simp
    with_reducible rfl
  rotate_left
  · simp only [Act.put, List.setIfInBounds_toArray, List.set_cons_zero, List.set_cons_succ, i64_w, i32_w]
    rfl
  refine pure_ (i := 6) (N := some 12) (v := ?_) (a' := ?_) #[true, true, true, true, true, true, true, false, false, false, false, false, false, true, false, false, false, false, false, false] rfl rfl (by kernel_rfl) (fun _ _ _ h => h) (Or.inl ⟨by rfl, ?_⟩) ?_ ?_
  rotate_left
  · intro w'
    go_simp
    with_reducible rfl
  rotate_left
  · simp only [Act.put, List.setIfInBounds_toArray, List.set_cons_zero, List.set_cons_succ, i64_w, i32_w]
    rfl
  refine pure_ (i := 7) (N := some 13) (v := ?_) (a' := ?_) #[true, true, true, true, true, true, true, true, false, false, false, false, false, true, false, false, false, false, false, false] rfl rfl (by kernel_rfl) (fun _ _ _ h => h) (Or.inl ⟨by rfl, ?_⟩) ?_ ?_
  rotate_left
  · intro w'
    go_simp
    with_reducible rfl
  rotate_left
  · simp only [Act.put, List.setIfInBounds_toArray, List.set_cons_zero, List.set_cons_succ, i64_w, i32_w]
    rfl
  refine take_ (i := 8) (N := some 14) (v := ?_) (a' := ?_) #[true, true, true, true, true, true, true, true, true, false, false, false, false, true, false, false, false, false, false, false] rfl rfl (by kernel_rfl) (fun _ _ _ h => h) (Or.inl ⟨by rfl, ?_⟩) hHeld ?_ ?_
  rotate_left
  · rintro w' ⟨s0, s1, s2, s3, s4, s5⟩
    go_simp
    with_reducible rfl
  rotate_left
  · simp only [Act.put, List.setIfInBounds_toArray, List.set_cons_zero, List.set_cons_succ, i64_w, i32_w]
    rfl
  refine take_ (i := 9) (N := some 15) (v := ?_) (a' := ?_) #[true, true, true, true, true, true, true, true, true, true, false, false, false, true, false, false, false, false, false, false] rfl rfl (by kernel_rfl) (fun _ _ _ h => h) (Or.inl ⟨by rfl, ?_⟩) hHeld ?_ ?_
  rotate_left
  · rintro w' ⟨s0, s1, s2, s3, s4, s5⟩
    go_simp
    with_reducible rfl
  rotate_left
  · simp only [Act.put, List.setIfInBounds_toArray, List.set_cons_zero, List.set_cons_succ, i64_w, i32_w]
    rfl
  refine pure_ (i := 10) (N := some 16) (v := ?_) (a' := ?_) #[true, true, true, true, true, true, true, true, true, true, true, false, false, true, false, false, false, false, false, false] rfl rfl (by kernel_rfl) (fun _ _ _ h => h) (Or.inl ⟨by rfl, ?_⟩) ?_ ?_
  rotate_left
  · intro w'
    go_simp
    with_reducible rfl
  rotate_left
  · simp only [Act.put, List.setIfInBounds_toArray, List.set_cons_zero, List.set_cons_succ, i64_w, i32_w]
    rfl
  refine pure_ (i := 11) (N := some 17) (v := ?_) (a' := ?_) #[true, true, true, true, true, true, true, true, true, true, true, true, false, true, false, false, false, false, false, false] rfl rfl (by kernel_rfl) (fun _ _ _ h => h) (Or.inl ⟨by rfl, ?_⟩) ?_ ?_
  rotate_left
  · intro w'
    go_simp
    with_reducible rfl
  rotate_left
  · simp only [Act.put, List.setIfInBounds_toArray, List.set_cons_zero, List.set_cons_succ, i64_w, i32_w]
    rfl
  refine take_ (i := 12) (N := some 18) (v := ?_) (a' := ?_) #[true, true, true, true, true, true, true, true, true, true, true, true, true, true, false, false, false, false, false, false] rfl rfl (by kernel_rfl) (fun _ _ _ h => h) (Or.inl ⟨by rfl, ?_⟩) hHeld ?_ ?_
  rotate_left
  · rintro w' ⟨s0, s1, s2, s3, s4, s5⟩
    go_simp
    with_reducible rfl
  rotate_left
  · simp only [Act.put, List.setIfInBounds_toArray, List.set_cons_zero, List.set_cons_succ, i64_w, i32_w]
    rfl
  refine take_ (i := 14) (N := some 20) (v := ?_) (a' := ?_) #[true, true, true, true, true, true, true, true, true, true, true, true, true, true, true, false, false, false, false, false] rfl rfl (by kernel_rfl) (fun _ _ _ h => h) (Or.inl ⟨by rfl, ?_⟩) hHeld ?_ ?_
  rotate_left
  · rintro w' ⟨s0, s1, s2, s3, s4, s5⟩
    go_simp
    with_reducible rfl
  rotate_left
  · simp only [Act.put, List.setIfInBounds_toArray, List.set_cons_zero, List.set_cons_succ, i64_w, i32_w]
    rfl
  refine pure_ (i := 15) (N := some 21) (v := ?_) (a' := ?_) #[true, true, true, true, true, true, true, true, true, true, true, true, true, true, true, true, false, false, false, false] rfl rfl (by kernel_rfl) (fun _ _ _ h => h) (Or.inl ⟨by rfl, ?_⟩) ?_ ?_
  rotate_left
  · intro w'
    go_simp
    with_reducible rfl
  rotate_left
  · simp only [Act.put, List.setIfInBounds_toArray, List.set_cons_zero, List.set_cons_succ, i64_w, i32_w]
    rfl
  refine pure_ (i := 16) (N := some 22) (v := ?_) (a' := ?_) #[true, true, true, true, true, true, true, true, true, true, true, true, true, true, true, true, true, false, false, false] rfl rfl (by kernel_rfl) (fun _ _ _ h => h) (Or.inl ⟨by rfl, ?_⟩) ?_ ?_
  rotate_left
  · intro w'
    go_simp
    with_reducible rfl
  rotate_left
  · simp only [Act.put, List.setIfInBounds_toArray, List.set_cons_zero, List.set_cons_succ, i64_w, i32_w]
    rfl
  refine take_ (i := 17) (N := some 23) (v := ?_) (a' := ?_) #[true, true, true, true, true, true, true, true, true, true, true, true, true, true, true, true, true, true, false, false] rfl rfl (by kernel_rfl) (fun _ _ _ h => h) (Or.inl ⟨by rfl, ?_⟩) hHeld ?_ ?_
  rotate_left
  · rintro w' ⟨s0, s1, s2, s3, s4, s5⟩
    go_simp
    with_reducible rfl
  rotate_left
  · simp only [Act.put, List.setIfInBounds_toArray, List.set_cons_zero, List.set_cons_succ, i64_w, i32_w]
    rfl
  refine pure_ (i := 18) (N := some 24) (v := ?_) (a' := ?_) #[true, true, true, true, true, true, true, true, true, true, true, true, true, true, true, true, true, true, true, false] rfl rfl (by kernel_rfl) (fun _ _ _ h => h) (Or.inl ⟨by rfl, ?_⟩) ?_ ?_
  rotate_left
  · intro w'
    go_simp
    with_reducible rfl
  rotate_left
  · simp only [Act.put, List.setIfInBounds_toArray, List.set_cons_zero, List.set_cons_succ, i64_w, i32_w]
    rfl
  refine pure_ (i := 19) (N := some 5) (v := ?_) (a' := ?_) #[true, true, true, true, true, true, true, true, true, true, true, true, true, true, true, true, true, true, true, true] rfl rfl (by kernel_rfl) (fun _ _ _ h => h) (Or.inl ⟨by rfl, ?_⟩) ?_ ?_
  rotate_left
  · intro w'
    go_simp
    with_reducible rfl
  rotate_left
  · simp only [Act.put, List.setIfInBounds_toArray, List.set_cons_zero, List.set_cons_succ, i64_w, i32_w]
    rfl
  refine done_ (by kernel_rfl) ?_
  go_wp2
  go_ret
  refine ⟨by first | rfl | rw [d2], 1, #[], ?_⟩
  rw [grow_empty]
  rfl
abbrev El (l : List Ex) := { x : Ex // x ∈ l }
def cfX (l : List Ex) (x y : El l) : Int := (x.1.us : Int) - (y.1.us : Int)
theorem swoX (l : List Ex) : SWO (ltOf (cfX l)) where
  irrefl x := by simp [ltOf, cfX]
  trans x y z h1 h2 := by
    have a1 := of_decide_eq_true (show decide ((x.1.us : Int) - (y.1.us : Int) < 0) = true from h1)
    have a2 := of_decide_eq_true (show decide ((y.1.us : Int) - (z.1.us : Int) < 0) = true from h2)
    exact decide_eq_true (show (x.1.us : Int) - (z.1.us : Int) < 0 by omega)
  ntrans x y z h1 h2 := by
    have a1 := of_decide_eq_false (show decide ((x.1.us : Int) - (y.1.us : Int) < 0) = false from h1)
    have a2 := of_decide_eq_false (show decide ((y.1.us : Int) - (z.1.us : Int) < 0) = false from h2)
    exact decide_eq_false (show ¬ (x.1.us : Int) - (z.1.us : Int) < 0 by omega)
theorem reps1_get {α : Type} {f : α → Value} {l : List α} {inner : List Value} (h : Reps (fun (x : α) cs => cs = [f x]) 1 l inner) : inner = l.map f := by
  obtain ⟨h1, h2⟩ := h
  apply List.ext_getElem?
  intro j
  rw [List.getElem?_map]
  cases hx : l[j]? with
  | none =>
    rw [List.getElem?_eq_none_iff] at hx
    rw [List.getElem?_eq_none (by omega)]
    rfl
  | some x =>
    have h3 := h2 j x hx
    have h4 : (List.take 1 (List.drop (j * 1) inner))[0]? = inner[j]? := by rw [List.getElem?_take, if_pos (by omega), List.getElem?_drop, Nat.mul_one, Nat.add_zero]
    rw [← h4, h3]
    rfl
theorem reps1_of {α : Type} (f : α → Value) (l : List α) : Reps (fun (x : α) cs => cs = [f x]) 1 l (l.map f) := by
  refine ⟨by rw [List.length_map, Nat.mul_one], fun j x hx => ?_⟩
  have hj := (List.getElem?_eq_some_iff.1 hx).1
  apply List.ext_getElem?
  intro i
  rw [List.getElem?_take, List.getElem?_drop, Nat.mul_one]
  by_cases hi : i < 1
  · obtain rfl : i = 0 := by omega
    rw [if_pos hi, Nat.add_zero, List.getElem?_map, hx]
    rfl
  · rw [if_neg hi, List.getElem?_eq_none (by simp; omega)]
theorem sort_c {w : World} {B bx g b it : Nat} {A : Array Value} {o : Obj} {v : Value} {X l : List Ex} (hrow : Kd.R Kd.string 9 w B (fun k => k ≠ it) v (X.map (fun x => x.e.nm))) (hp : X.Perm l) (hs : l.Pairwise (fun x y => x.us < y.us)) (hu : ∀ x ∈ l, x.us ≤ 1000000) (hl : l.length ≤ 1000000)
    (hw : CmpW g b bx A o l w) (hlk : ∀ V : World, V.heap[b]? = some o → ∀ x ∈ l, (Instr.lookup 62 (.map (some b)) (.string x.e.nm) false).run Try.prog V = .ok (.pointer (some ⟨x.p, 0, none⟩)) V) (hne : ∀ k, (k = bx ∨ k = g ∨ k = b ∨ ∃ x ∈ l, k = x.p) → k < B) :
    Calls Try.prog 44 #[v, .func (.func 45) #[] #[.pointer (some ⟨bx, 0, none⟩)]] w fun e w' => e = .returned (.tuple #[]) ∧ Kd.R Kd.string 9 w' B (fun _ => True) v (l.map (fun x => x.e.nm)) ∧ (∀ w0, Below B w0 w → Below B w0 w') := by
  obtain ⟨_, inner, ⟨hlen, hv⟩, hreps⟩ := hrow
  have hsz1 : Kd.string.sz = 1 := rfl
  rw [hsz1] at hlen hv hreps
  rw [List.length_map] at hlen hv
  rcases hv with ⟨rfl, h0⟩ | ⟨G, cap, cur, rfl, hG, hH, hcap, hmax, hsz, htake⟩
  · have hX : X = [] := List.length_eq_zero_iff.1 h0
    subst hX
    have hl0 : l = [] := List.nil_perm.1 hp
    subst hl0
    refine (AnyF.slices_SortFunc_none (P := Try.prog) (ρ := Srt.nums) { Srt.lays with z46 := fun _ => by kernel_rfl, v46 := fun _ => by kernel_rfl } none 0 _ w).mono ?_
    rintro e w' ⟨rfl, rfl⟩
    exact ⟨rfl, Kd.R_nil _ _ _ _ _, fun _ h => h⟩
  · cases hl0 : l with
    | nil =>
      rw [hl0] at hp
      have hX : X = [] := List.perm_nil.1 hp
      subst hX
      refine (AnyF.slices_SortFunc_none (P := Try.prog) (ρ := Srt.nums) { Srt.lays with z46 := fun _ => by kernel_rfl, v46 := fun _ => by kernel_rfl } (some ⟨G, 0, none⟩) cap _ w).mono ?_
      rintro e w' ⟨rfl, rfl⟩
      refine ⟨rfl, ⟨fun _ _ => trivial, [], ⟨rfl, .inr ⟨G, cap, cur, rfl, hG, hH, hcap, hmax, hsz, by simp⟩⟩, ⟨rfl, fun j x hx => by simp at hx⟩⟩, fun _ h => h⟩
    | cons x0 l0 =>
    rw [← hl0]
    have hx0 : x0 ∈ l := by rw [hl0]; exact List.mem_cons_self
    letI : Inhabited (El l) := ⟨⟨x0, hx0⟩⟩
    obtain ⟨d, hd⟩ : ∃ d : Array (El l), d.toList.map Subtype.val = X := ⟨(X.pmap (fun x h => (⟨x, h⟩ : El l)) (fun x hx => hp.mem_iff.1 hx)).toArray, by simp [List.map_pmap]⟩
    have hds : d.size = X.length := by rw [← hd]; simp
    have hGs : G < w.heap.size := lt_of_blk hH
    have hXl : X.length = l.length := hp.length_eq
    have hinner : inner = X.map (fun x => Value.string x.e.nm) := by
      have h1 : inner = (X.map (fun x => x.e.nm)).map (fun n => Value.string n) := reps1_get hreps
      rw [h1, List.map_map]
      rfl
    have hcur : ∀ j, j < d.size → cur[j]? = some (Value.string (d[j]!).1.e.nm) := fun j hj => by
      have h1 : (cur.toList.take (X.length * 1))[j]? = (X.map (fun x => Value.string x.e.nm))[j]? := by rw [htake, hinner]
      rw [List.getElem?_take, if_pos (by omega), Array.getElem?_toList, List.getElem?_map, ← hd, List.getElem?_map, Array.getElem?_toList, Array.getElem?_eq_getElem hj] at h1
      rw [h1, getElem!_pos d j hj]
      rfl
    have hhold : Holds (fun x : El l => Value.string x.1.e.nm) w G 0 d := fun j hj => by
      rw [Nat.zero_add]
      exact ⟨ckA hH j _ (hcur j hj), free_of_one hH j⟩
    have eg : ∀ args w, (callFunc 45 args).run Try.prog w = .ok (.enter 45 args) w := enters_of Try.func45 (by kernel_rfl) rfl
    have hsame : ∀ (n : Nat) (dk : Array (El l)) (os : Array Obj) (k : Nat), k < w.heap.size → k ≠ G → (sortWorld (fun x : El l => Value.string x.1.e.nm) w G 0 n dk os).heap[k]? = w.heap[k]? := fun n dk os k hk hne => by
      unfold sortWorld
      rw [heap_grow_old _ _ (by unfold putRow; simp [mapBlock]; exact hk)]
      show (w.heap.modify G _)[k]? = _
      rw [Array.getElem?_modify, if_neg (fun e => hne e.symm)]
    have hcmp : CmpLays1 Try.prog 45 #[.pointer (some ⟨bx, 0, none⟩)] (fun x : El l => Value.string x.1.e.nm) (cfX l) G 0 d.size w := fun m os dk hdk x y =>
      cmp_c (hw.keep (fun k hk => by have h1 := hne k hk; exact hsame m dk os k (by omega) (by omega))) x.1 y.1 x.2 y.2 hlk hu
    have hcon := Any.slices_SortFunc (P := Try.prog) (ρ := Srt.nums) Srt.lays (fun x : El l => Value.string x.1.e.nm) (fun x => rfl) (cfX l) (swoX l) 45 #[.pointer (some ⟨bx, 0, none⟩)] G 0 cap d w eg hcmp hhold hGs (by omega)
    rw [hds] at hcon
    refine hcon.mono ?_
    rintro e w' ⟨rfl, d', n, os, hP, hS, rfl⟩
    obtain ⟨hd1, _, hd2⟩ := hP
    have e1 : d'.extract 0 d.size = d' := by rw [← hd1]; exact Array.extract_size
    rw [← hds, e1, Array.extract_size] at hd2
    have hl' : d'.toList.map Subtype.val = l := by
      have hpp : (d'.toList.map Subtype.val).Perm l := ((hd2.map Subtype.val).trans (by rw [hd])).trans hp
      refine List.Perm.eq_of_pairwise (le := fun x y => x.us ≤ y.us) ?_ ?_ (hs.imp (fun h => Nat.le_of_lt h)) hpp
      · intro a c ha hc h1 h2
        have ha' := hpp.mem_iff.1 ha
        obtain ⟨i, hi, rfl⟩ := List.getElem_of_mem ha'
        obtain ⟨k, hk, rfl⟩ := List.getElem_of_mem hc
        rw [List.pairwise_iff_getElem] at hs
        by_cases c1 : i < k
        · have := hs i k hi hk c1; omega
        · by_cases c2 : k < i
          · have := hs k i hk hi c2; omega
          · have : i = k := by omega
            subst this
            rfl
      · rw [List.pairwise_map, List.pairwise_iff_getElem]
        intro i k hi hk hik
        have h1 := hS i k (Nat.zero_le _) hik (by simp at hk; omega)
        simp at hi hk
        rw [getElem!_pos d' k hk, getElem!_pos d' i hi] at h1
        have a1 := of_decide_eq_false (show decide ((d'[k].1.us : Int) - (d'[i].1.us : Int) < 0) = false from h1)
        simp
        omega
    have hdl : d'.size = l.length := by
      have := congrArg List.length hl'
      simpa using this
    have hblk : (sortWorld (fun x : El l => Value.string x.1.e.nm) w G 0 n d' os).heap[G]? = some (.cells (putCells (fun x : El l => Value.string x.1.e.nm) 0 d' cur) 9 (0, 0)) := by
      unfold sortWorld
      rw [heap_grow_old _ _ (by unfold putRow; simp [mapBlock]; exact hGs)]
      show (w.heap.modify G _)[G]? = _
      rw [Array.getElem?_modify, if_pos rfl, hH]
      rfl
    have hgrow : w.heap.size ≤ (sortWorld (fun x : El l => Value.string x.1.e.nm) w G 0 n d' os).heap.size := by
      unfold sortWorld putRow
      simp [mapBlock]
    have hfin : (putCells (fun x : El l => Value.string x.1.e.nm) 0 d' cur).toList.take (l.length * 1) = l.map (fun x => Value.string x.e.nm) := by
      apply List.ext_getElem?
      intro j
      rw [List.getElem?_take]
      by_cases hj : j < l.length
      · rw [if_pos (by omega), Array.getElem?_toList, putCells, Array.getElem?_mapIdx, hcur j (by omega)]
        simp only [Option.map_some, Nat.zero_le, true_and, Nat.zero_add, Nat.sub_zero, hdl, if_pos hj]
        have hj' : j < d'.size := by omega
        have h1 : l[j]? = some d'[j].1 := by
          conv => lhs; rw [← hl']
          rw [List.getElem?_map, Array.getElem?_toList, Array.getElem?_eq_getElem hj']
          rfl
        rw [List.getElem?_map, h1, getElem!_pos d' j hj']
        rfl
      · rw [if_neg (by omega), List.getElem?_map, List.getElem?_eq_none (by omega)]
        rfl
    refine ⟨rfl, ⟨fun _ _ => trivial, l.map (fun x => Value.string x.e.nm), ⟨by rw [List.length_map, List.length_map, hsz1, Nat.mul_one], .inr ⟨G, cap, _, by rw [List.length_map, hXl], hG, hblk, by rw [List.length_map]; omega, hmax, by simp [putCells]; exact hsz, by rw [List.length_map]; exact hfin⟩⟩, ?_⟩, fun w0 hb => ⟨hb.os, hb.tape, hb.output, Nat.le_trans hb.size hgrow, fun i hi => ?_⟩⟩
    · have := reps1_of (fun n : ByteArray => Value.string n) (l.map (fun x => x.e.nm))
      rw [List.map_map] at this
      exact this
    · have h1 := hb.size
      exact (hsame n d' os i (by omega) (by omega)).trans (hb.block i hi)
end Go.Proofs.Ytoleencecfjcjaa.At

/- The names in the order of use. -/
set_option linter.unusedVariables false
set_option linter.unusedSimpArgs false
namespace Go.Proofs.Ytoleencecfjcjaa.At
open Go.RowKit Go.Proofs.YtoleencecfjcjaaW.PrintWords Go.Proofs.YtoleencecfjcjaaW.PrintLast Go.Proofs.YtoleencecfjcjaaW.PrintMore Go.Proofs.Ytoleencecfjcjaa.Rng Go.WideMaps Go.WideElems
open Go.ChangeShapes Go.WideShapes Go.MapKept
open Go.ChangeMaps (modify_eq_set setBlock keptBut_setBlock heap_setBlock_same heap_setBlock_other)
theorem infoS : (Try.prog.info? 9).map (fun i => (i.zero, i.size, i.bytes)) = some (some (.string ⟨#[]⟩), Kd.string.sz, 16) := by kernel_rfl
theorem undSs : Try.prog.underlying 46 = some (.slice 9) := by kernel_rfl
theorem used_len {c : Nat} : ∀ (l : List Ex) (lo : Nat), l.Pairwise (fun x y => x.us < y.us) → (∀ x ∈ l, lo ≤ x.us ∧ x.us ≤ c) → l.length ≤ c + 1 - lo
  | [], lo, _, _ => by simp
  | x :: l, lo, hp, h => by
    rw [List.pairwise_cons] at hp
    have h1 := h x List.mem_cons_self
    have h2 := used_len l (x.us + 1) hp.2 (fun y hy => ⟨hp.1 y hy, (h y (List.mem_cons_of_mem _ hy)).2⟩)
    rw [List.length_cons]
    omega
theorem AtI.len_le {w : World} {g W H N : Nat} {l : List Ex} {gp gt b cp ct clk : Nat} {PX TK : List Nat} {px tk : Nat → Nat → Bool} {es : Array MapEntry} {mc : Nat} (h : AtI w g W H N l gp gt b cp ct clk PX TK px tk es mc) : l.length ≤ N + 1 := by
  have h1 := used_len l 0 h.used (fun x hx => ⟨Nat.zero_le _, h.le x hx⟩)
  have h2 := h.clk
  omega
set_option maxRecDepth 100000 in
set_option maxHeartbeats 4000000 in
theorem Names_c {w : World} {g W H N : Nat} {l : List Ex} {gp gt b cp ct clk : Nat} {PX TK : List Nat} {px tk : Nat → Nat → Bool} {es : Array MapEntry} {mc : Nat} (h : AtI w g W H N l gp gt b cp ct clk PX TK px tk es mc) (hN : N ≤ 900000) :
    Calls Try.prog 22 #[.pointer (some ⟨g, 0, none⟩)] w fun e w' => ∃ v, e = .returned v ∧ Kd.R Kd.string 9 w' w.heap.size (fun _ => True) v (l.map (fun x => x.e.nm)) ∧ Below w.heap.size w w' := by
  obtain ⟨l', hp', hE⟩ := EntX.of h.ents h.born h.bnd
  obtain ⟨W1, hW1⟩ : ∃ V, V = w.alloc (.cells #[.pointer (some ⟨g, 0, none⟩)] 27) := ⟨_, rfl⟩
  have hb1 : Below w.heap.size w W1 := by rw [hW1]; exact below_alloc (Below.refl _ _) _
  have hz1 : W1.heap.size = w.heap.size + 1 := by rw [hW1]; simp
  have hx1 : W1.heap[w.heap.size]? = some (.cells #[.pointer (some ⟨g, 0, none⟩)] 27 (0, 0)) := by rw [hW1]; exact blk_new _ _
  have hbt := lt_of_blk h.map
  have hgt := lt_of_blk h.blk
  have HC := Lib.hid (show CmpW g b w.heap.size #[.int .i64 (W : Int), .int .i64 (H : Int), .slice (some ⟨gp, 0, none⟩) H cp, .slice (some ⟨gt, 0, none⟩) H ct, .map (some b), .int .i64 (clk : Int)] (.map es mc) l W1 from ⟨hx1, blk_below h.blk hb1, rfl, blk_below h.map hb1, fun x hx => blk_below (h.ent x hx) hb1⟩)
  have HNE := Lib.hid (show ∀ k, (k = w.heap.size ∨ k = g ∨ k = b ∨ ∃ x ∈ l, k = x.p) → k < w.heap.size + 1 from fun k hk => by
    rcases hk with rfl | rfl | rfl | ⟨x, hx, rfl⟩
    · omega
    · omega
    · omega
    · have := lt_of_blk (h.ent x hx); omega)
  have HLK := Lib.hid (fun (V : World) (hV : V.heap[b]? = some (.map es mc)) x (hx : x ∈ l) => h.ents.look hV h.len h.inv.names hx false)
  have HU := Lib.hid (show ∀ x ∈ l, x.us ≤ 1000000 from fun x hx => by have h1 := h.le x hx; have h2 := h.clk; omega)
  have HL := Lib.hid (show l.length ≤ 1000000 from by have := h.len_le; omega)
  have HM := Lib.hid (blk_below h.map hb1)
  have HBT := Lib.hid hbt
  have HB1 := Lib.hid hb1
  have HZ1 := Lib.hid hz1
  have HE := Lib.hid hE
  have HP := Lib.hid hp'
  have HS := Lib.hid h.used
  have q0 : W1.cell? ⟨w.heap.size, 0, none⟩ = some (.pointer (some ⟨g, 0, none⟩)) := ckA hx1 0 _ rfl
  have q4 : W1.cell? ⟨g, 4, none⟩ = some (.map (some b)) := ckA (blk_below h.blk hb1) 4 _ rfl
  clear h hp' hE hb1 hx1 hbt hgt hN
  go_enter Try.func22, Try.ntmps22
  go_upto_region 1 with fail
  rw [← hW1]
  clear hW1
  go_wp2_with (refine wpl_range _ rfl _ _ rfl _ _ undM b es mc HM.out rfl ?_)
  rw [hz1]
  clear hz1
  go_frame
  go_loopg [2] ((leftZ (Zs es l') #[]).length + 1) (fun kq v2 w' => ∃ (seen : Array Nat) (c0 : Nat) (X : List Ex), w'.heap[w.heap.size + 1]? = some (.mapIter (some b) mc seen c0) ∧ mc ≤ c0 ∧ Kd.R Kd.string 9 w' (w.heap.size + 1) (fun k => k ≠ w.heap.size + 1) v2 (X.map (fun x => x.e.nm)) ∧ (X ++ (leftZ (Zs es l') seen).map Prod.snd).Perm l' ∧ Below (w.heap.size + 1) W1 w' ∧ w.heap.size + 1 < w'.heap.size ∧ (leftZ (Zs es l') seen).length < kq)
  case atStart =>
    have hz := HZ1.out
    refine ⟨#[], mc, [], ?_, Nat.le_refl _, Kd.R_nil _ _ _ _ _, ?_, (Below.refl _ _).alloc (by omega) _, by simp [World.alloc, -World.alloc_eq, hz], Nat.lt_succ_self _⟩
    · rw [← hz]; exact blk_new _ _
    · have : leftZ (Zs es l') #[] = Zs es l' := List.filter_eq_self.2 (fun z _ => by simp)
      rw [this, HE.out.snd]
      exact List.Perm.refl _
  case round =>
    obtain ⟨seen, c0, X, hit, hc0, hrow, hperm, hb, hsz, hk⟩ := hrel
    have HIT := Lib.hid hit
    have HMB := Lib.hid ((hb.block b (by have := HBT.out; omega)).trans HM.out)
    have HC0 := Lib.hid hc0
    have HROW := Lib.hid hrow
    have HPERM := Lib.hid hperm
    have HB := Lib.hid hb
    have HSZ := Lib.hid hsz
    have HK := Lib.hid hk
    have HBI := Lib.hid (show b < w.heap.size + 1 from by have := HBT.out; omega)
    clear hit hc0 hrow hperm hb hsz hk
    go_wp2_with (first
      | (refine wpl_next _ rfl _ rfl (w.heap.size + 1) b mc c0 seen es mc rfl HIT.out HMB.out HE.out.born HC0.out ?hd ?hm
         case' hd => intro h0; have H0 := Lib.hid h0; clear h0
         case' hm =>
           intro e he w1 hw1
           obtain ⟨wq, x, hq, hxl, h1, h2, hp, hit, hrow, hb, hen⟩ := next_world hw1 HIT.out HMB.out HBI.out (Nat.le_refl _) HROW.out HB.out HE.out e he
           rw [hq, h1, h2]
           have HP2 := Lib.hid hp
           have HI2 := Lib.hid hit
           have HR2 := Lib.hid hrow
           have HB2 := Lib.hid hb
           have HS2 := Lib.hid (lt_of_blk hit)
           clear hp hit hrow hb hq h1 h2 hw1 he hxl)
      | ((with_reducible refine gate_builtin (b := .append) (xs := #[.tmp 15, .tmp 17]) rfl ?_); at_builtin
         go_loud (refine Kd.R_append Kd.string (w0 := W1) (W := wq) (w.heap.size + 1) rfl (.tmp 15) (.tmp 17) 46 9 (.string ⟨#[]⟩) 16 rfl undSs infoS rfl (by decide) (by omega) u2 (X.map (fun x => x.e.nm)) x.e.nm [.string x.e.nm] (fun k => k ≠ w.heap.size + 1) (fun _ => False) rfl ?aX rfl (fun _ hk => hk.elim) ?aF HR2.out HB2.out ?aS ?aL ?_)
         go_loud (case aX => rfl)
         go_loud (case aF => intro k hk e; subst e; have := HS2.out; omega)
         go_loud (case aS => have := HS2.out; omega)
         go_loud (case aL => have := (HPERM.out.trans HP.out).length_eq; rw [List.length_append] at this; rw [List.length_map]; have := HL.out; omega)
         intro v9 w9 ho9 hb9 hg9 hat9
         have HO9 := Lib.hid ho9
         have HB9 := Lib.hid hb9
         have HIT9 := Lib.hid ((hg9.block (w.heap.size + 1) HS2.out (fun e => HR2.out.1 _ e.symm rfl)).trans HI2.out)
         have HS9 := Lib.hid (Nat.lt_of_lt_of_le HS2.out hg9.size)
         clear ho9 hb9 hg9 hat9)
      | (go_at_call 44
         have hnil := left_none HE.out seen H0.out
         have hp0 := HPERM.out
         rw [hnil, List.map_nil, List.append_nil] at hp0
         refine (sort_c HROW.out (hp0.trans HP.out) HS.out HU.out HL.out (HC.out.keep (fun k hk => HB.out.block k (HNE.out k hk))) HLK.out HNE.out).mono ?_
         rintro e w9 ⟨rfl, ho9, hb9⟩
         have HO9 := Lib.hid ho9
         have HB9 := Lib.hid (hb9 W1 HB.out)
         clear ho9 hb9 hnil hp0))
    · cases gk with
      | zero => have := HK.out; omega
      | succ k1 =>
        go_roundg k1
        case measure => omega
        case rel => exact ⟨seen.push e.born, mc, X ++ [x], HIT9.out, Nat.le_refl _, by rw [List.map_append]; exact HO9.out, perm_next HP2.out HPERM.out, HB9.out, HS9.out, by have h1 := len_next HP2.out; have h2 := HK.out; omega⟩
    · go_ret
      exact ⟨_, rfl, Kd.R_lower HO9.out (Nat.le_succ _), HB1.out.trans (HB9.out.mono (Nat.le_succ _))⟩
theorem Names_at {w : World} {g W H N : Nat} {L : List En} {Q : Nat → Prop} (h : AtIs w g W H N L Q) (hN : N ≤ 900000) :
    Calls Try.prog 22 #[.pointer (some ⟨g, 0, none⟩)] w fun e w' => ∃ v, e = .returned v ∧ Kd.R Kd.string 9 w' w.heap.size (fun _ => True) v (L.map En.nm) ∧ Below w.heap.size w w' := by
  obtain ⟨l, gp, gt, b, cp, ct, clk, PX, TK, px, tk, es, mc, h, rfl, hQ⟩ := h
  rw [List.map_map]
  exact Names_c h hN
end Go.Proofs.Ytoleencecfjcjaa.At

