/- The relay: Keep. -/
import Derived.Test.YthokkeljfdfppaaMgA
import Derived.Deep.MidRow
import Derived.Deep.Cut
import Derived.Deep.DeepCutAuto
set_option linter.unusedVariables false
set_option linter.unusedSimpArgs false
namespace Go.Proofs.Ythokkeljfdfppaa.Rl
open Go.RowKit Go.Proofs.YthokkeljfdfppaaW.PrintWords Go.Proofs.YthokkeljfdfppaaW.PrintLast Go.Proofs.YthokkeljfdfppaaW.PrintMore Go.Proofs.Ythokkeljfdfppaa.Pb Go.Proofs.Ythokkeljfdfppaa.Gw Go.WideMaps Go.WideElems
open Go.ChangeShapes Go.WideShapes Go.MapKept
theorem zax4 {p : Prop} (h : p := by rintro w' ⟨s0, s1, s2, s3, s4, s5, s6, s7, s8, s9, s10, s11, s12⟩; go_simp; with_reducible rfl) : p := h
theorem zax3 {p : Prop} (h : p := by have := HZ.out; have := HN.out; omega) : p := h
theorem zax2 {p : Prop} (h : p := by simp only [Act.put, nS]; rfl) : p := h
theorem zax1 {p : Prop} (h : p := by simp only [List.map_toArray, List.map_cons, List.map_nil]; rfl) : p := h
theorem zax0 {p : Prop} (h : p := by show Act.put _ (some _) _ = _; simp only [Act.put, nS]; rfl) : p := h
def sumSz (l : List Kp) : Int := (l.map Kp.sz).sum
def fit : List Kp → Int → List Kp
 | [], _ => []
 | x :: l, room => if room < sumSz (x :: l) then fit l room else x :: l
def others (n : Nm) (l : List Kp) : List Kp := l.filter (fun x => decide (x.nm ≠ n))
theorem others_of_none {n : Nm} {l : List Kp} (h : ∀ x ∈ l, x.nm ≠ n) : others n l = l := List.filter_eq_self.2 (fun x hx => by simpa using h x hx)
theorem others_erase {n : Nm} : ∀ {l : List Kp} (hp : l.Pairwise (fun x y => x.nm ≠ y.nm)) (j : Nat) (x : Kp), l[j]? = some x → x.nm = n → others n l = l.eraseIdx j
 | [], _, j, x, hx, _ => by simp at hx
 | y :: l, hp, 0, x, hx, hn => by
   simp at hx
   subst hx
   rw [List.pairwise_cons] at hp
   have h1 : others n l = l := others_of_none (fun z hz e => hp.1 z hz (hn.trans e.symm))
   unfold others at h1 ⊢
   rw [List.filter_cons_of_neg (by simpa using hn), h1]
   rfl
 | y :: l, hp, j + 1, x, hx, hn => by
   rw [List.pairwise_cons] at hp
   have hx' : l[j]? = some x := by simpa using hx
   have hne : y.nm ≠ n := fun e => hp.1 x (List.mem_of_getElem? hx') (e.trans hn.symm)
   have h1 := others_erase hp.2 j x hx' hn
   unfold others at h1 ⊢
   rw [List.filter_cons_of_pos (by simpa using hne), h1]
   rfl
theorem find_nm (n : Nm) (l : List Kp) : (∀ x ∈ l, x.nm ≠ n) ∨ ∃ (j : Nat) (x : Kp), l[j]? = some x ∧ x.nm = n := by
 by_cases h : ∃ x ∈ l, x.nm = n
 · obtain ⟨x, hx, hn⟩ := h
   obtain ⟨j, hj, he⟩ := List.getElem_of_mem hx
   exact .inr ⟨j, x, (List.getElem?_eq_getElem hj).trans (congrArg some he), hn⟩
 · exact .inl (fun x hx e => h ⟨x, hx, e⟩)
theorem sum_erase : ∀ (l : List Kp) (j : Nat) (x : Kp), l[j]? = some x → sumSz (l.eraseIdx j) = sumSz l - x.sz
 | [], j, x, hx => by simp at hx
 | y :: l, 0, x, hx => by
   simp at hx
   subst hx
   simp [sumSz]
   omega
 | y :: l, j + 1, x, hx => by
   have := sum_erase l j x (by simpa using hx)
   simp [sumSz] at this ⊢
   omega
theorem look_any (l : List Kp) (n : Nm) (hn : n.Ok) : ∃ (V : Array Value) (t : Bool), V.size = 13 ∧ V.all (·.oneCell') = true ∧ (∀ (w : World) (g b : Nat) (no bytes used clk : Int), RelIs w g b no bytes used clk l → (Instr.lookup 80 (.map (some b)) n.val true).run Try.prog w = .ok (.tuple #[.agg V, .bool t]) w) ∧
 (t = true → ∃ (j : Nat) (x : Kp), l[j]? = some x ∧ x.nm = n) ∧ (t = false → ∀ x ∈ l, x.nm ≠ n) := by
 rcases find_nm n l with h | ⟨j, x, hx, rfl⟩
 · exact ⟨_, false, rfl, by simp [Value.oneCell'], fun w g b no bytes used clk hR => hR.miss n hn h, fun e => absurd e (by decide), fun _ => h⟩
 · exact ⟨x.cells.toArray, true, rfl, by simp [Kp.cells, Value.oneCell'], fun w g b no bytes used clk hR => hR.hit j x hx, fun _ => ⟨j, x, hx, rfl⟩, fun e => absurd e (by decide)⟩

theorem rl64 {x : Int} (h0 : -9223372036854775808 ≤ x) (h1 : x < 9223372036854775808) : wrap64 x = x := by unfold wrap64; omega
theorem below_cells {B b : Nat} {a : World} (hb : B ≤ b) : ∀ (vs : List Value) (o : Nat) (w : World), Below B a w → Below B a (w.setCells b o vs)
 | [], _, _, h => h
 | v :: vs, o, w, h => below_cells hb vs (o + 1) _ (h.setCell (p := ⟨b, o, none⟩) hb v)
theorem there_blk {w : World} {D n : Nat} {cs : Array Value} {T : TypeId} (h : w.heap[D]? = some (.cells cs T (0, 0))) (hn : cs.size = n) : w.there D 0 n := fun j hj => by
 have hv : cs[j]? = some cs[j] := Array.getElem?_eq_getElem (by omega)
 rw [Nat.zero_add, ck h j _ hv]
 exact ⟨rfl, fz h j⟩
theorem store_ {P : Program} {ops : Array Oper} {Q : Exit → Act → World → Prop} {oi : Oper} {a : Act} {w : World} {K : Act → World → Prop} (hw : Region.wanted oi (yielded ops a.tmps) = true) (hN : oi.dst = none) (ty : TypeId) (x y : Operand) (ho : oi.op = .store ty x y)
 (b o : Nat) (cells : Array Value) (hx : a.eval x = .pointer (some ⟨b, o, none⟩)) (hy : a.eval y = .agg cells) (ht : w.there b o cells.size) (hi : (P.info? ty).map (·.size) = some cells.size) (h1 : cells.all (·.oneCell') = true)
 (h : K a (w.setCells b o cells.toList)) : if Region.wanted oi (yielded ops a.tmps) = true then Oper.wp P oi a w K Q else K (a.put none undef) w := by
 rw [if_pos hw]
 refine wp_store_mid ty x y ho b o cells hx hy ht hi h1 ?_
 rw [hN]
 exact h
set_option maxRecDepth 100000 in
theorem names_x (f0 : ByteArray) (f1 k1 k2 k3 b1 b2 b3 : Int) (f4 : ByteArray) (f5 : Int) (f6 : List ByteArray) (A : Option Addr) (c : Nat) (w : World) :
 Calls Try.prog 71 #[.agg #[.string f0, .int .i64 f1, .int .i64 k1, .int .i64 k2, .int .i64 k3, .int .i64 b1, .int .i64 b2, .int .i64 b3, .string f4, .int .i64 f5, .slice A f6.length c]] w fun e w' => e = .returned (.agg #[.string f0, .int .i64 f1, .int .i64 k1, .int .i64 k2, .int .i64 k3, .int .i64 b1, .int .i64 b2, .int .i64 b3]) ∧ Below w.heap.size w w' := names_c ⟨f0, f1, ⟨k1, k2, k3⟩, ⟨b1, b2, b3⟩, f4, f5, f6⟩ A c w
set_option maxRecDepth 100000 in
theorem drop_x {w : World} {g b : Nat} {no bytes used clk : Int} {l : List Kp} (h : RelIs w g b no bytes used clk l) (j : Nat) (x : Kp) (hx : l[j]? = some x) (u : Int) (hu : wrap64 (used - x.sz) = u) (f0 : ByteArray) (f1 k1 k2 k3 b1 b2 b3 : Int) (hn : x.nm = ⟨f0, f1, k1, k2, k3, b1, b2, b3⟩) :
 Calls Try.prog 72 #[.pointer (some ⟨g, 0, none⟩), .agg #[.string f0, .int .i64 f1, .int .i64 k1, .int .i64 k2, .int .i64 k3, .int .i64 b1, .int .i64 b2, .int .i64 b3]] w fun e w' => e = .returned (.tuple #[]) ∧ RelIs w' g b no bytes u clk (l.eraseIdx j) ∧ Only g b w w' := by
 have := drop_c h j x hx u hu
 rw [hn] at this
 exact this
theorem F_of_R {α : Type} {d : Kd α} {e base n c : Nat} {A : Option Addr} {ok : Nat → Prop} {w : World} {xs : List α} (h : Kd.R d e w base ok (.slice A n c) xs) (ok' : Nat → Prop) (hk : ∀ k, base ≤ k → k < w.heap.size → ok' k) : Kd.F d w ok' A xs.length xs := fun W' hW =>
 (Kd.R_reads' (Kd.R_move (Kd.R_bound h) (fun k hk' => hW k (hk k hk'.2.1 hk'.2.2.1) hk'.2.2.1))).2.2
theorem Kp.Good.below {w w1 : World} {g b : Nat} {x : Kp} (h : x.Good w g b) (hb : Below w.heap.size w w1) : x.Good w1 g b := h.only (Only.of_below hb)
set_option maxRecDepth 100000 in
theorem push_x {w : World} {g b : Nat} {no bytes used clk : Int} {l : List Kp} (h : RelIs w g b no bytes used clk l) (f0 : ByteArray) (f1 k1 k2 k3 b1 b2 b3 : Int) (f4 : ByteArray) (f5 : Int) (f6 : List ByteArray) (A : Option Addr) (c : Nat) (sz t : Int)
 (hx : (⟨⟨f0, f1, ⟨k1, k2, k3⟩, ⟨b1, b2, b3⟩, f4, f5, f6⟩, A, c, sz, t⟩ : Kp).Good w g b) (hnew : ∀ y ∈ l, y.nm ≠ ⟨f0, f1, k1, k2, k3, b1, b2, b3⟩) (h0 : 0 < t) (h1 : t ≤ clk) (hlt : ∀ y ∈ l, y.t < t) :
 ∃ w', (Instr.mapUpdate 80 (.map (some b)) (.agg #[.string f0, .int .i64 f1, .int .i64 k1, .int .i64 k2, .int .i64 k3, .int .i64 b1, .int .i64 b2, .int .i64 b3]) (.agg #[.string f0, .int .i64 f1, .int .i64 k1, .int .i64 k2, .int .i64 k3, .int .i64 b1, .int .i64 b2, .int .i64 b3, .string f4, .int .i64 f5, .slice A f6.length c, .int .i64 sz, .int .i64 t])).run Try.prog w = .ok () w' ∧ RelIs w' g b no bytes used clk (l ++ [⟨⟨f0, f1, ⟨k1, k2, k3⟩, ⟨b1, b2, b3⟩, f4, f5, f6⟩, A, c, sz, t⟩]) ∧ Only g b w w' := h.push _ hx hnew h0 h1 hlt
theorem sum_nonneg : ∀ (l : List Kp), (∀ x ∈ l, 0 ≤ x.sz) → 0 ≤ sumSz l
 | [], _ => by simp [sumSz]
 | x :: l, h => by
   have h1 := sum_nonneg l (fun y hy => h y (List.mem_cons_of_mem _ hy))
   have h2 := h x List.mem_cons_self
   simp only [sumSz, List.map_cons, List.sum_cons] at h1 ⊢
   omega
theorem sum_cons (x : Kp) (l : List Kp) : sumSz (x :: l) = x.sz + sumSz l := by simp [sumSz]
theorem sum_sub {l m : List Kp} (h : m.Sublist l) : (∀ x ∈ l, 0 ≤ x.sz) → sumSz m ≤ sumSz l := by
 induction h with
 | slnil => intro _; exact Int.le_refl _
 | cons a hs ih => intro h0; have h1 := ih (fun y hy => h0 y (List.mem_cons_of_mem _ hy)); have h2 := h0 a List.mem_cons_self; rw [sum_cons]; omega
 | cons_cons a hs ih => intro h0; have h1 := ih (fun y hy => h0 y (List.mem_cons_of_mem _ hy)); rw [sum_cons, sum_cons]; omega
theorem fit_sub : ∀ (l : List Kp) (room : Int), (fit l room).Sublist l
 | [], _ => List.Sublist.refl _
 | x :: l, room => by
   unfold fit
   split
   · exact (fit_sub l room).cons x
   · exact List.Sublist.refl _
theorem fit_stop {l : List Kp} {room : Int} (h : ¬ room < sumSz l) : fit l room = l := by
 cases l with
 | nil => rfl
 | cons x l => unfold fit; rw [if_neg h]
theorem fit_go {x : Kp} {l : List Kp} {room : Int} (h : room < sumSz (x :: l)) : fit (x :: l) room = fit l room := by rw [fit, if_pos h]
theorem others_sub (n : Nm) (l : List Kp) : (others n l).Sublist l := List.filter_sublist
theorem others_ne {n : Nm} {l : List Kp} : ∀ x ∈ others n l, x.nm ≠ n := fun x hx => by
 have := (List.mem_filter.1 hx).2
 simpa using this
theorem head_cells {e base : Nat} {ok : Nat → Prop} {w : World} {v : Value} {x : Kp} {m : List Kp} (h : Kd.R kKp e w base ok v (x :: m)) : ∃ gb c, v = .slice (some ⟨gb, 0, none⟩) (m.length + 1) c ∧ ∀ j u, x.cells[j]? = some u → w.cell? ⟨gb, j, none⟩ = some u := by
 have h' := h
 obtain ⟨_, inner, ho, _⟩ := h
 rcases ho.2 with h2 | ⟨gb, cap, cur, rfl, hg, hh, r⟩
 · exact absurd h2.2 (by simp)
 · refine ⟨gb, cap, rfl, fun j u hu => ?_⟩
   obtain ⟨ad, c, e1, _, hK, hc⟩ := Kd.C_get (Kd.R_reads' h').2.2 x 0 (by omega) (by simp)
   cases e1
   have hK : c = x.cells := hK
   subst hK
   have := hc j u hu
   rw [Addr.add_mid] at this
   simpa using this
theorem no_str {w : World} {p : Addr} {no bytes used clk : Int} {b : Nat} {T : TypeId} {s : ByteArray} (hb : w.heap[p.block]? = some (.cells #[.int .i64 no, .int .i64 bytes, .int .i64 used, .int .i64 clk, .map (some b)] T (0, 0))) (h : w.cell? p = some (.string s)) : False := by
 obtain ⟨pb, off, sp⟩ := p
 unfold World.cell? at h
 rw [hb] at h
 simp only at h
 split at h
 · cases h
 · match off with
   | 0 => simp at h
   | 1 => simp at h
   | 2 => simp at h
   | 3 => simp at h
   | 4 => simp at h
   | k + 5 => simp at h
theorem no_str_map {w : World} {p : Addr} {es : Array MapEntry} {mc : Nat} {s : Value} (hb : w.heap[p.block]? = some (.map es mc)) (h : w.cell? p = some s) : False := by
 unfold World.cell? at h
 rw [hb] at h
 cases h
theorem C_only {w w' : World} {g b : Nat} {no bytes used clk : Int} {l : List Kp} {A : Option Addr} {n : Nat} {xs : List ByteArray} (hR : RelIs w g b no bytes used clk l) (h : Kd.C Kd.string w A n xs) (ho : Only g b w w') : Kd.C Kd.string w' A n xs :=
 ⟨h.1, h.2.1, fun hn => by
  obtain ⟨ad, rfl, hc⟩ := h.2.2 hn
  refine ⟨ad, rfl, fun j p hp => ?_⟩
  obtain ⟨c, h1, h2, h3⟩ := hc j p hp
  refine ⟨c, h1, h2, fun i u hu => ?_⟩
  have h4 := h3 i u hu
  have h2' : c = [.string p] := h2
  subst h2'
  have hu' : u = .string p := by
   cases i with
   | zero => simpa using hu.symm
   | succ i => simp at hu
  subst hu'
  have hg : (ad.add (j * Kd.string.sz + i)).block ≠ g := fun e => no_str (e ▸ hR.relay) h4
  have hb : (ad.add (j * Kd.string.sz + i)).block ≠ b := fun e => by
   obtain ⟨es, mc, hm, _⟩ := hR.map
   exact no_str_map (e ▸ hm) h4
  have hlt := World.block_lt_of_cell? _ _ h4
  rw [← h4]
  unfold World.cell?
  rw [ho.block _ hlt hg hb]⟩
theorem RelIs.box {w : World} {g b : Nat} {no bytes used clk : Int} {l : List Kp} (h : RelIs w g b no bytes used clk l) (p : Addr) (v : Value) (hg : p.block ≠ g) (hb : p.block ≠ b) (hgood : ∀ x ∈ l, x.Good (w.setCell p v) g b) : RelIs (w.setCell p v) g b no bytes used clk l := by
 obtain ⟨es, mc, hm, hE⟩ := h.map
 exact ⟨(Below.heap_setCell w p v g (Ne.symm hg)).trans h.relay, ⟨es, mc, (Below.heap_setCell w p v b (Ne.symm hb)).trans hm, hE⟩, h.apart, hgood, h.sorted, h.times⟩
structure KM (w : World) (g b : Nat) (no bytes clk : Int) (l : List Kp) (n : Nm) (X : Nat) (cs : Array Value) (wx : World) : Prop where
 rel : RelIs wx g b no bytes (sumSz (others n l)) clk (others n l)
 only : Only g b w wx
 box : wx.heap[X]? = some (.cells cs 55 (0, 0))
 lt : X < wx.heap.size
structure KR (w : World) (g b : Nat) (no bytes clk : Int) (l : List Kp) (n : Nm) (room : Int) (X : Nat) (cs : Array Value) (kq : Nat) (m : List Kp) (wr : World) : Prop where
 rel : RelIs wr g b no bytes (sumSz m) clk m
 only : Only g b w wr
 box : wr.heap[X]? = some (.cells cs 55 (0, 0))
 sub : m.Sublist (others n l)
 fits : fit m room = fit (others n l) room
 less : m.length < kq
set_option maxHeartbeats 8000000 in
set_option maxRecDepth 100000 in
theorem Keep_ok {w : World} {g b : Nat} {no bytes used clk : Int} {l : List Kp} (h : RelIs w g b no bytes used clk l) (h0 : 0 < bytes) (hbig : bytes ≤ 1099511627776) (hus : used = sumSz l) (hle : used ≤ bytes) (hsz : ∀ x ∈ l, 0 ≤ x.sz) (hclk : clk ≤ 2305843009213693952) (hclk0 : 0 ≤ clk) (hll : l.length ≤ 100000) (p : S55) (A : Option Addr) (c : Nat) (r : ByteArray) (hr : Kd.C Kd.string w A p.f6.length p.f6) (hc : p.f6.length ≤ c) (hpl : p.f6.length ≤ 1000000) (hok : (nmOf p).Ok) (he : EncIs p r) (hb : ¬ bytes < (r.size : Int)) :
 Calls Try.prog 31 #[.pointer (some ⟨g, 0, none⟩), .agg (pcells p A c).toArray] w fun e w' => e = .returned (.int .i64 0) ∧ Only g b w w' ∧ ∃ x : Kp, x.p = p ∧ x.sz = (r.size : Int) ∧ x.t = clk + 1 ∧ RelIs w' g b no bytes (sumSz (fit (others (nmOf p) l) (bytes - r.size) ++ [x])) (clk + 1) (fit (others (nmOf p) l) (bytes - r.size) ++ [x]) := by
 obtain ⟨f0, f1, ⟨k1, k2, k3⟩, ⟨b1, b2, b3⟩, f4, f5, f6⟩ := p
 simp only at hpl hr hc
 have HE := Lib.hid he
 have HR := Lib.hid hr
 have HC := Lib.hid hc
 have HW := Lib.hid h
 have HPL := Lib.hid hpl
 have HB := Lib.hid (Below.refl w.heap.size w)
 have HBX := Lib.hid (heap_alloc w (.cells #[.string f0, .int .i64 f1, .int .i64 k1, .int .i64 k2, .int .i64 k3, .int .i64 b1, .int .i64 b2, .int .i64 b3, .string f4, .int .i64 f5, .slice A f6.length c] 55 (0, 0))).1
 have q1 : w.cell? ⟨g, 1, none⟩ = some (.int .i64 bytes) := ck h.relay 1 _ rfl
 have hg : g < w.heap.size := blk_lt h.relay
 have e1 : (bytes == 0) = false := beq_eq_false_iff_ne.mpr (by omega)
 have e2 : decide (bytes < (r.size : Int)) = false := decide_eq_false hb
 obtain ⟨V, t, hV, hV1, hLK, hyes, hno⟩ := look_any l _ hok
 have HV := Lib.hid hV
 have HV1 := Lib.hid hV1
 have HLK := Lib.hid (fun (w' : World) (hR : RelIs w' g b no bytes used clk l) => hLK w' g b no bytes used clk hR)
 have HYES := Lib.hid hyes
 have HNO := Lib.hid hno
 have HUS := Lib.hid hus
 have HN := Lib.hid (show 0 < bytes ∧ bytes ≤ 1099511627776 ∧ used ≤ bytes ∧ clk ≤ 2305843009213693952 ∧ 0 ≤ clk ∧ l.length ≤ 100000 ∧ ¬ bytes < (r.size : Int) from ⟨h0, hbig, hle, hclk, hclk0, hll, hb⟩)
 have HSZ := Lib.hid hsz
 have HBNE := Lib.hid (show w.heap.size ≠ b by obtain ⟨es, mc, hm, _⟩ := h.map; have := blk_lt hm; omega)
 have HOK := Lib.hid hok
 clear he hr hc h h0 hb hV hV1 hLK hyes hno hus hbig hle hclk hclk0 hll hsz hpl hok
 show Calls _ _ #[_, .agg #[.string f0, .int .i64 f1, .int .i64 k1, .int .i64 k2, .int .i64 k3, .int .i64 b1, .int .i64 b2, .int .i64 b3, .string f4, .int .i64 f5, .slice A f6.length c]] _ _
 go_enter Try.func31, Try.ntmps31
 go_wp2_with (go_at_call 37; refine (enc_c HE.out A c _ (Kd.C_alloc HR.out _) HC.out).mono ?_; rintro e w1 ⟨rfl, hb1⟩; have HB1 := Lib.hid ((below_alloc HB.out _).trans (hb1.mono (below_alloc HB.out _).size)); have HX1 := Lib.hid ((hb1.block w.heap.size (by rw [size1 w]; omega)).trans HBX.out); have q2 := (HB1.out.cell (p := ⟨g, 1, none⟩) hg).trans q1; clear hb1)
 clear q1 q2 e1 e2
 have HO1 := Lib.hid (show Only g b w w1.drew from (Only.of_below HB1.out).drewN 1)
 have D2 := Lib.hid (HW.out.below HB1.out).drew
 have HBXd := Lib.hid (show w1.drew.heap[w.heap.size]? = _ from HX1.out)
 have HO2 := Lib.hid (show w.heap.size < w1.drew.heap.size from blk_lt HBXd.out)
 have qg : w1.drew.cell? ⟨g, 4, none⟩ = some (.map (some b)) := ck D2.out.relay 4 _ rfl
 have p0 : w1.drew.cell? ⟨w.heap.size, 0, none⟩ = some (.string f0) := ck HBXd.out 0 _ rfl
 have p1 : w1.drew.cell? ⟨w.heap.size, 1, none⟩ = some (.int .i64 f1) := ck HBXd.out 1 _ rfl
 have p2 : w1.drew.cell? ⟨w.heap.size, 2, none⟩ = some (.int .i64 k1) := ck HBXd.out 2 _ rfl
 have p3 : w1.drew.cell? ⟨w.heap.size, 3, none⟩ = some (.int .i64 k2) := ck HBXd.out 3 _ rfl
 have p4 : w1.drew.cell? ⟨w.heap.size, 4, none⟩ = some (.int .i64 k3) := ck HBXd.out 4 _ rfl
 have p5 : w1.drew.cell? ⟨w.heap.size, 5, none⟩ = some (.int .i64 b1) := ck HBXd.out 5 _ rfl
 have p6 : w1.drew.cell? ⟨w.heap.size, 6, none⟩ = some (.int .i64 b2) := ck HBXd.out 6 _ rfl
 have p7 : w1.drew.cell? ⟨w.heap.size, 7, none⟩ = some (.int .i64 b3) := ck HBXd.out 7 _ rfl
 have p8 : w1.drew.cell? ⟨w.heap.size, 8, none⟩ = some (.string f4) := ck HBXd.out 8 _ rfl
 have p9 : w1.drew.cell? ⟨w.heap.size, 9, none⟩ = some (.int .i64 f5) := ck HBXd.out 9 _ rfl
 have p10 : w1.drew.cell? ⟨w.heap.size, 10, none⟩ = some (.slice A f6.length c) := ck HBXd.out 10 _ rfl
 have qL := HLK.out _ D2.out
 have lg : g < w1.drew.heap.size := blk_lt D2.out.relay
 have lx : w.heap.size < w1.drew.heap.size := blk_lt HBXd.out
 simp only [Nm.val, Nm.cells, nmOf] at qL
 refine start_ (n := 13) (S := fun w' => w'.cell? ⟨g, 4, none⟩ = some (.map (some b)) ∧ w'.cell? ⟨w.heap.size, 0, none⟩ = some (.string f0) ∧ w'.cell? ⟨w.heap.size, 1, none⟩ = some (.int .i64 f1) ∧ w'.cell? ⟨w.heap.size, 2, none⟩ = some (.int .i64 k1) ∧ w'.cell? ⟨w.heap.size, 3, none⟩ = some (.int .i64 k2) ∧ w'.cell? ⟨w.heap.size, 4, none⟩ = some (.int .i64 k3) ∧ w'.cell? ⟨w.heap.size, 5, none⟩ = some (.int .i64 b1) ∧ w'.cell? ⟨w.heap.size, 6, none⟩ = some (.int .i64 b2) ∧ w'.cell? ⟨w.heap.size, 7, none⟩ = some (.int .i64 b3) ∧ w'.cell? ⟨w.heap.size, 8, none⟩ = some (.string f4) ∧ w'.cell? ⟨w.heap.size, 9, none⟩ = some (.int .i64 f5) ∧ w'.cell? ⟨w.heap.size, 10, none⟩ = some (.slice A f6.length c) ∧ (Instr.lookup 80 (.map (some b)) (.agg #[.string f0, .int .i64 f1, .int .i64 k1, .int .i64 k2, .int .i64 k3, .int .i64 b1, .int .i64 b2, .int .i64 b3]) true).run Try.prog w' = .ok (.tuple #[.agg V, .bool t]) w') (ds := [11]) #[false, false, false, false, false, false, false, false, false, false, false, false, false] (by kernel_rfl) rfl rfl ⟨qg, p0, p1, p2, p3, p4, p5, p6, p7, p8, p9, p10, qL⟩ (fun hHeld => ?_)
 generalize w1.drew = wd at D2 HBXd HO2 HO1 qg p0 p1 p2 p3 p4 p5 p6 p7 p8 p9 p10 qL lg lx hHeld ⊢; have HX := Lib.hid (Below.refl wd.heap.size wd)
 refine pA 0 (some 27) rfl rfl (by intro w'; go_simp; with_reducible rfl) zax2 ?_
 refine pA 1 (some 28) rfl rfl (by intro w'; go_simp; with_reducible rfl) zax2 ?_
 refine pA 2 (some 29) rfl rfl (by intro w'; go_simp; with_reducible rfl) zax2 ?_
 refine tA 3 (some 30) rfl rfl zax4 hHeld zax2 ?_
 refine tA 4 (some 31) rfl rfl zax4 hHeld zax2 ?_
 refine join_ (σ := Nat) 2 #[true, true, true, true, true, true, true, true, true, true, true, false, false] (fun s => [(6, .pointer (some ⟨s, 0, none⟩)), (26, .tuple #[.agg V, .bool t]), (32, .agg #[.string f0, .int .i64 f1, .int .i64 k1, .int .i64 k2, .int .i64 k3, .int .i64 b1, .int .i64 b2, .int .i64 b3]), (33, .tuple #[.agg V, .bool t]), (34, .agg V), (35, .bool t)]) (fun s w' => Below wd.heap.size wd w' ∧ wd.heap.size ≤ s ∧ w'.heap[s]? = some (.cells #[.string ⟨#[]⟩, .int .i64 0, .int .i64 0, .int .i64 0, .int .i64 0, .int .i64 0, .int .i64 0, .int .i64 0, .string ⟨#[]⟩, .int .i64 0, .slice none 0 0, .int .i64 0, .int .i64 0] 117 (0, 0))) ?_ ?_
 rotate_left
 · intro hCont
   refine two_ (i := 5) (j := 10) (Ni := some 32) (Nj := some 6) #[true, true, true, true, true, true, false, false, false, false, false, false, false] #[true, true, true, true, true, false, false, false, false, false, true, false, false] rfl rfl rfl rfl (by kernel_rfl) (by decide) (by decide) (fun K hK => ?_) (fun K hK => ?_)
   · skip
     refine goes_ Try.func71 (by kernel_rfl) rfl #[.agg #[.string f0, .int .i64 f1, .int .i64 k1, .int .i64 k2, .int .i64 k3, .int .i64 b1, .int .i64 b2, .int .i64 b3, .string f4, .int .i64 f5, .slice A f6.length c]] (by rfl) rfl rfl zax1 ?_
     with_reducible refine (names_x f0 f1 k1 k2 k3 b1 b2 b3 f4 f5 f6 A c _).mono ?_
     rintro e wx ⟨rfl, hbx⟩
     refine ⟨_, rfl, ?_⟩
     have n_ := Lib.hid (HX.out.trans (hbx.mono HX.out.size)); clear HX; have HX := n_; clear n_
     have HS5 := Lib.hid HX.out.size
     refine hK.out _ _ ⟨(HX.out.cell lg).trans qg, (HX.out.cell lx).trans p0, (HX.out.cell lx).trans p1, (HX.out.cell lx).trans p2, (HX.out.cell lx).trans p3, (HX.out.cell lx).trans p4, (HX.out.cell lx).trans p5, (HX.out.cell lx).trans p6, (HX.out.cell lx).trans p7, (HX.out.cell lx).trans p8, (HX.out.cell lx).trans p9, (HX.out.cell lx).trans p10, HLK.out _ (D2.out.below HX.out)⟩ (fun hHeld => norm_ zax0 ?_)
     clear hK K
     refine take_ (i := 6) (N := some 33) (v := ?_) (a' := ?_) #[true, true, true, true, true, true, true, false, false, false, false, false, false] rfl rfl (by kernel_rfl) (fun _ _ _ h => h) (Or.inl ⟨by rfl, ?_⟩) hHeld ?_ ?_
     rotate_left
     · rintro w' ⟨s0, s1, s2, s3, s4, s5, s6, s7, s8, s9, s10, s11, s12⟩
       go_simp
       with_reducible rfl
     rotate_left
     · simp only [Act.put, nS]
       rfl
     refine pure_ (i := 7) (N := some 26) (v := ?_) (a' := ?_) #[true, true, true, true, true, true, true, true, false, false, false, false, false] rfl rfl (by kernel_rfl) (fun _ _ _ h => h) (Or.inl ⟨by rfl, ?_⟩) ?_ ?_
     rotate_left
     · intro w'
       go_simp
       with_reducible rfl
     rotate_left
     · simp only [Act.put, nS]
       rfl
     refine pure_ (i := 8) (N := some 34) (v := ?_) (a' := ?_) #[true, true, true, true, true, true, true, true, true, false, false, false, false] rfl rfl (by kernel_rfl) (fun _ _ _ h => h) (Or.inl ⟨by rfl, ?_⟩) ?_ ?_
     rotate_left
     · intro w'
       go_simp
       with_reducible rfl
     rotate_left
     · simp only [Act.put, nS]
       rfl
     refine pure_ (i := 9) (N := some 35) (v := ?_) (a' := ?_) #[true, true, true, true, true, true, true, true, true, true, false, false, false] rfl rfl (by kernel_rfl) (fun _ _ _ h => h) (Or.inl ⟨by rfl, ?_⟩) ?_ ?_
     rotate_left
     · intro w'
       go_simp
       with_reducible rfl
     rotate_left
     · simp only [Act.put, nS]
       rfl
     refine one_ (i := 10) (N := some 6) #[true, true, true, true, true, true, true, true, true, true, true, false, false] rfl rfl (by kernel_rfl) (by decide) (fun K hK => ?_)
     refine value_ (w1 := ?_) (v := ?_) (by rfl) rfl ?_ ?_
     rotate_left 2
     · go_simp
       constructor
       · rfl
       · rfl
     have HG := Lib.hid (MapKept.heap_alloc wx (.cells #[.string ⟨#[]⟩, .int .i64 0, .int .i64 0, .int .i64 0, .int .i64 0, .int .i64 0, .int .i64 0, .int .i64 0, .string ⟨#[]⟩, .int .i64 0, .slice none 0 0, .int .i64 0, .int .i64 0] 117 (0, 0))).1
     have n_ := Lib.hid (HX.out.trans (below_alloc (Below.refl wx.heap.size wx) (.cells #[.string ⟨#[]⟩, .int .i64 0, .int .i64 0, .int .i64 0, .int .i64 0, .int .i64 0, .int .i64 0, .int .i64 0, .string ⟨#[]⟩, .int .i64 0, .slice none 0 0, .int .i64 0, .int .i64 0] 117 (0, 0)) |>.mono HX.out.size)); clear HX; have HX := n_; clear n_
     refine hK.out _ _ ⟨(HX.out.cell lg).trans qg, (HX.out.cell lx).trans p0, (HX.out.cell lx).trans p1, (HX.out.cell lx).trans p2, (HX.out.cell lx).trans p3, (HX.out.cell lx).trans p4, (HX.out.cell lx).trans p5, (HX.out.cell lx).trans p6, (HX.out.cell lx).trans p7, (HX.out.cell lx).trans p8, (HX.out.cell lx).trans p9, (HX.out.cell lx).trans p10, HLK.out _ (D2.out.below HX.out)⟩ (fun hHeld => norm_ zax0 ?_)
     clear hK K
     exact norm_ (by simp only [putAll, Act.put, nS]) (hCont wx.heap.size _ ⟨HX.out, HS5.out, HG.out⟩)
   · skip
     refine value_ (w1 := ?_) (v := ?_) (by rfl) rfl ?_ ?_
     rotate_left 2
     · go_simp
       constructor
       · rfl
       · rfl
     have HG := Lib.hid (MapKept.heap_alloc wd (.cells #[.string ⟨#[]⟩, .int .i64 0, .int .i64 0, .int .i64 0, .int .i64 0, .int .i64 0, .int .i64 0, .int .i64 0, .string ⟨#[]⟩, .int .i64 0, .slice none 0 0, .int .i64 0, .int .i64 0] 117 (0, 0))).1
     have n_ := Lib.hid (HX.out.trans (below_alloc (Below.refl wd.heap.size wd) (.cells #[.string ⟨#[]⟩, .int .i64 0, .int .i64 0, .int .i64 0, .int .i64 0, .int .i64 0, .int .i64 0, .int .i64 0, .string ⟨#[]⟩, .int .i64 0, .slice none 0 0, .int .i64 0, .int .i64 0] 117 (0, 0)) |>.mono HX.out.size)); clear HX; have HX := n_; clear n_
     refine hK.out _ _ ⟨(HX.out.cell lg).trans qg, (HX.out.cell lx).trans p0, (HX.out.cell lx).trans p1, (HX.out.cell lx).trans p2, (HX.out.cell lx).trans p3, (HX.out.cell lx).trans p4, (HX.out.cell lx).trans p5, (HX.out.cell lx).trans p6, (HX.out.cell lx).trans p7, (HX.out.cell lx).trans p8, (HX.out.cell lx).trans p9, (HX.out.cell lx).trans p10, HLK.out _ (D2.out.below HX.out)⟩ (fun hHeld => norm_ zax0 ?_)
     clear hK K
     refine one_ (i := 5) (N := some 32) #[true, true, true, true, true, true, false, false, false, false, true, false, false] rfl rfl (by kernel_rfl) (by decide) (fun K hK => ?_)
     refine goes_ Try.func71 (by kernel_rfl) rfl #[.agg #[.string f0, .int .i64 f1, .int .i64 k1, .int .i64 k2, .int .i64 k3, .int .i64 b1, .int .i64 b2, .int .i64 b3, .string f4, .int .i64 f5, .slice A f6.length c]] (by rfl) rfl rfl zax1 ?_
     with_reducible refine (names_x f0 f1 k1 k2 k3 b1 b2 b3 f4 f5 f6 A c _).mono ?_
     rintro e wx ⟨rfl, hbx⟩
     refine ⟨_, rfl, ?_⟩
     have HG6 := Lib.hid ((hbx.block _ (blk_lt HG.out)).trans HG.out)
     have n_ := Lib.hid (HX.out.trans (hbx.mono HX.out.size)); clear HX; have HX := n_; clear n_
     refine hK.out _ _ ⟨(HX.out.cell lg).trans qg, (HX.out.cell lx).trans p0, (HX.out.cell lx).trans p1, (HX.out.cell lx).trans p2, (HX.out.cell lx).trans p3, (HX.out.cell lx).trans p4, (HX.out.cell lx).trans p5, (HX.out.cell lx).trans p6, (HX.out.cell lx).trans p7, (HX.out.cell lx).trans p8, (HX.out.cell lx).trans p9, (HX.out.cell lx).trans p10, HLK.out _ (D2.out.below HX.out)⟩ (fun hHeld => norm_ zax0 ?_)
     clear hK K
     refine take_ (i := 6) (N := some 33) (v := ?_) (a' := ?_) #[true, true, true, true, true, true, true, false, false, false, true, false, false] rfl rfl (by kernel_rfl) (fun _ _ _ h => h) (Or.inl ⟨by rfl, ?_⟩) hHeld ?_ ?_
     rotate_left
     · rintro w' ⟨s0, s1, s2, s3, s4, s5, s6, s7, s8, s9, s10, s11, s12⟩
       go_simp
       with_reducible rfl
     rotate_left
     · simp only [Act.put, nS]
       rfl
     refine pure_ (i := 7) (N := some 26) (v := ?_) (a' := ?_) #[true, true, true, true, true, true, true, true, false, false, true, false, false] rfl rfl (by kernel_rfl) (fun _ _ _ h => h) (Or.inl ⟨by rfl, ?_⟩) ?_ ?_
     rotate_left
     · intro w'
       go_simp
       with_reducible rfl
     rotate_left
     · simp only [Act.put, nS]
       rfl
     refine pure_ (i := 8) (N := some 34) (v := ?_) (a' := ?_) #[true, true, true, true, true, true, true, true, true, false, true, false, false] rfl rfl (by kernel_rfl) (fun _ _ _ h => h) (Or.inl ⟨by rfl, ?_⟩) ?_ ?_
     rotate_left
     · intro w'
       go_simp
       with_reducible rfl
     rotate_left
     · simp only [Act.put, nS]
       rfl
     refine pure_ (i := 9) (N := some 35) (v := ?_) (a' := ?_) #[true, true, true, true, true, true, true, true, true, true, true, false, false] rfl rfl (by kernel_rfl) (fun _ _ _ h => h) (Or.inl ⟨by rfl, ?_⟩) ?_ ?_
     rotate_left
     · intro w'
       go_simp
       with_reducible rfl
     rotate_left
     · simp only [Act.put, nS]
       rfl
     exact norm_ (by simp only [putAll, Act.put, nS]) (hCont wd.heap.size _ ⟨HX.out, Nat.le_refl _, HG6.out⟩)
 rintro gk w' ⟨hF1, hgk0, hgk⟩
 have HX := Lib.hid hF1
 have hHeld : w'.cell? ⟨g, 4, none⟩ = some (.map (some b)) ∧ w'.cell? ⟨w.heap.size, 0, none⟩ = some (.string f0) ∧ w'.cell? ⟨w.heap.size, 1, none⟩ = some (.int .i64 f1) ∧ w'.cell? ⟨w.heap.size, 2, none⟩ = some (.int .i64 k1) ∧ w'.cell? ⟨w.heap.size, 3, none⟩ = some (.int .i64 k2) ∧ w'.cell? ⟨w.heap.size, 4, none⟩ = some (.int .i64 k3) ∧ w'.cell? ⟨w.heap.size, 5, none⟩ = some (.int .i64 b1) ∧ w'.cell? ⟨w.heap.size, 6, none⟩ = some (.int .i64 b2) ∧ w'.cell? ⟨w.heap.size, 7, none⟩ = some (.int .i64 b3) ∧ w'.cell? ⟨w.heap.size, 8, none⟩ = some (.string f4) ∧ w'.cell? ⟨w.heap.size, 9, none⟩ = some (.int .i64 f5) ∧ w'.cell? ⟨w.heap.size, 10, none⟩ = some (.slice A f6.length c) ∧ (Instr.lookup 80 (.map (some b)) (.agg #[.string f0, .int .i64 f1, .int .i64 k1, .int .i64 k2, .int .i64 k3, .int .i64 b1, .int .i64 b2, .int .i64 b3]) true).run Try.prog w' = .ok (.tuple #[.agg V, .bool t]) w' := ⟨(HX.out.cell lg).trans qg, (HX.out.cell lx).trans p0, (HX.out.cell lx).trans p1, (HX.out.cell lx).trans p2, (HX.out.cell lx).trans p3, (HX.out.cell lx).trans p4, (HX.out.cell lx).trans p5, (HX.out.cell lx).trans p6, (HX.out.cell lx).trans p7, (HX.out.cell lx).trans p8, (HX.out.cell lx).trans p9, (HX.out.cell lx).trans p10, HLK.out _ (D2.out.below HX.out)⟩
 refine norm_ (a' := ?_) ?_ ?_
 rotate_left
 · simp only [putAll, Act.put, nS]
   rfl
 refine last_ (i := 11) (N := none) #[true, true, true, true, true, true, true, true, true, true, true, true, false] rfl rfl (by kernel_rfl) (by decide) (fun K hK => ?_)
 refine store_ (by rfl) rfl 117 (.tmp 6) (.tmp 34) rfl gk 0 V rfl rfl (there_blk hgk (by rw [HV.out]; rfl)) (by rw [HV.out]; kernel_rfl) HV1.out ?_
 refine hK.out _ _ ?_
 clear hK K
 refine pure_ (i := 12) (N := some 7) (v := ?_) (a' := ?_) #[true, true, true, true, true, true, true, true, true, true, true, true, true] rfl rfl (by kernel_rfl) (fun _ _ _ h => h) (Or.inl ⟨by rfl, ?_⟩) ?_ ?_
 rotate_left
 · intro w'
   go_simp
   with_reducible rfl
 rotate_left
 · simp only [Act.put, nS]
   rfl
 refine done_ (by kernel_rfl) ?_
 have HB3 := Lib.hid (below_cells (B := wd.heap.size) hgk0 V.toList 0 _ HX.out)
 clear qg qL lg lx hgk0 hgk HX hHeld p0 p1 p2 p3 p4 p5 p6 p7 p8 p9 p10
 generalize w'.setCells gk 0 V.toList = w3 at HB3 ⊢
 have HX3 := Lib.hid ((HB3.out.block w.heap.size HO2.out).trans HBXd.out)
 have D3 := Lib.hid (D2.out.below HB3.out)
 have HO3 := Lib.hid (HO1.out.trans (Only.of_below HB3.out))
 have HLT := Lib.hid (show w.heap.size < w3.heap.size from blk_lt HX3.out)
 have HXg := Lib.hid (show w.heap.size ≠ g by omega)
 have HXb := Lib.hid (show w.heap.size ≠ b from HBNE.out)
 clear D2 HBXd HO2 HB3 HO1 hg
 go_upto_if 36 with fail
 go_cut [] (fun wx => KM w g b no bytes clk l ⟨f0, f1, k1, k2, k3, b1, b2, b3⟩ w.heap.size #[.string f0, .int .i64 f1, .int .i64 k1, .int .i64 k2, .int .i64 k3, .int .i64 b1, .int .i64 b2, .int .i64 b3, .string f4, .int .i64 f5, .slice A f6.length c] wx)
 case first =>
  have p0 : w3.cell? ⟨w.heap.size, 0, none⟩ = some (.string f0) := ck HX3.out 0 _ rfl
  have p1 : w3.cell? ⟨w.heap.size, 1, none⟩ = some (.int .i64 f1) := ck HX3.out 1 _ rfl
  have p2 : w3.cell? ⟨w.heap.size, 2, none⟩ = some (.int .i64 k1) := ck HX3.out 2 _ rfl
  have p3 : w3.cell? ⟨w.heap.size, 3, none⟩ = some (.int .i64 k2) := ck HX3.out 3 _ rfl
  have p4 : w3.cell? ⟨w.heap.size, 4, none⟩ = some (.int .i64 k3) := ck HX3.out 4 _ rfl
  have p5 : w3.cell? ⟨w.heap.size, 5, none⟩ = some (.int .i64 b1) := ck HX3.out 5 _ rfl
  have p6 : w3.cell? ⟨w.heap.size, 6, none⟩ = some (.int .i64 b2) := ck HX3.out 6 _ rfl
  have p7 : w3.cell? ⟨w.heap.size, 7, none⟩ = some (.int .i64 b3) := ck HX3.out 7 _ rfl
  have p8 : w3.cell? ⟨w.heap.size, 8, none⟩ = some (.string f4) := ck HX3.out 8 _ rfl
  have p9 : w3.cell? ⟨w.heap.size, 9, none⟩ = some (.int .i64 f5) := ck HX3.out 9 _ rfl
  have p10 : w3.cell? ⟨w.heap.size, 10, none⟩ = some (.slice A f6.length c) := ck HX3.out 10 _ rfl
  cases t with
  | false =>
    go_wp2
    go_meet
    have hoth := others_of_none (HNO.out (by first | rfl | trivial))
    have h3 := D3.out
    rw [HUS.out] at h3
    exact ⟨by rw [show others ⟨f0, f1, k1, k2, k3, b1, b2, b3⟩ l = l from hoth]; exact h3, HO3.out, HX3.out, HLT.out⟩
  | true =>
    obtain ⟨j, x, hx, hn⟩ := HYES.out rfl
    have hoth := others_erase D3.out.apart j x hx hn
    have hsub := sum_sub (others_sub ⟨f0, f1, k1, k2, k3, b1, b2, b3⟩ l) HSZ.out
    have hpos := sum_nonneg (others ⟨f0, f1, k1, k2, k3, b1, b2, b3⟩ l) (fun y hy => HSZ.out y ((others_sub _ l).mem hy))
    have hse := sum_erase l j x hx
    rw [show nmOf ⟨f0, f1, ⟨k1, k2, k3⟩, ⟨b1, b2, b3⟩, f4, f5, f6⟩ = ⟨f0, f1, k1, k2, k3, b1, b2, b3⟩ from rfl] at hoth hn
    have HU := Lib.hid (show wrap64 (used - x.sz) = sumSz (others ⟨f0, f1, k1, k2, k3, b1, b2, b3⟩ l) by rw [hoth]; rw [hoth] at hpos hsub; have h_ := HUS.out; have h2_ := HN.out; rw [rl64 (by omega) (by omega)]; omega)
    have HX_ := Lib.hid hx
    have HNx := Lib.hid hn
    have HOTH := Lib.hid hoth
    clear hsub hpos hse hx hn hoth
    go_wp2_with (first
     | (go_at_call 71; refine (names_x f0 f1 k1 k2 k3 b1 b2 b3 f4 f5 f6 A c _).mono ?_; rintro e w4 ⟨rfl, hb4⟩; have HB4 := Lib.hid hb4; clear hb4)
     | (go_at_call 72; refine (drop_x (D3.out.below HB4.out) j x HX_.out _ HU.out f0 f1 k1 k2 k3 b1 b2 b3 HNx.out).mono ?_; rintro e w5 ⟨rfl, d5, o5⟩; have D5 := Lib.hid d5; have O5 := Lib.hid ((Only.of_below HB4.out).trans o5); clear d5 o5))
    go_meet
    have h5 := D5.out
    rw [← HOTH.out] at h5
    exact ⟨h5, HO3.out.trans O5.out, (O5.out.block _ (blk_lt HX3.out) HXg.out HXb.out).trans HX3.out, Nat.lt_of_lt_of_le HLT.out O5.out.size⟩
 case rest =>
  have HKM := Lib.hid hcut
  clear hcut HYES HNO HLK HV HV1 HX3 D3 HO3
  go_wp2
  go_loopg [41] (l.length + 1) (fun kq v41 w' => ∃ m, KR w g b no bytes clk l ⟨f0, f1, k1, k2, k3, b1, b2, b3⟩ (bytes - r.size) w.heap.size #[.string f0, .int .i64 f1, .int .i64 k1, .int .i64 k2, .int .i64 k3, .int .i64 b1, .int .i64 b2, .int .i64 b3, .string f4, .int .i64 f5, .slice A f6.length c] kq m w')
  case atStart => exact ⟨_, HKM.out.rel, HKM.out.only, HKM.out.box, List.Sublist.refl _, rfl, Nat.lt_succ_of_le (others_sub _ l).length_le⟩
  case round =>
   obtain ⟨m, hm⟩ := hrel
   have HM := Lib.hid hm
   obtain ⟨u, hu⟩ : ∃ u, u = sumSz m := ⟨_, rfl⟩
   have HRr := hm.rel
   rw [← hu] at HRr
   have DR := Lib.hid HRr.drew
   have hz0 := sum_nonneg m (fun y hy => HSZ.out y ((others_sub _ l).mem (hm.sub.mem hy)))
   have hz1 := sum_sub (hm.sub.trans (others_sub _ l)) HSZ.out
   have HZ := Lib.hid (show 0 ≤ u ∧ u ≤ bytes ∧ u = sumSz m by have h_ := HN.out; have h2_ := HUS.out; omega)
   have q2 : wr.drew.cell? ⟨g, 2, none⟩ = some (.int .i64 u) := ck DR.out.relay 2 _ rfl
   have q1 : wr.drew.cell? ⟨g, 1, none⟩ = some (.int .i64 bytes) := ck DR.out.relay 1 _ rfl
   have HBR := Lib.hid (show wr.drew.heap[w.heap.size]? = _ from hm.box)
   have HOR := Lib.hid (show Only g b w wr.drew from hm.only.drewN 1)
   have e3 : wrap64 (u + (r.size : Int)) = u + (r.size : Int) := rl64 zax3 zax3
   clear hm hu HRr hz0 hz1
   by_cases hroom : bytes < u + (r.size : Int)
   · have e4 : decide (bytes < u + (r.size : Int)) = true := decide_eq_true hroom
     have HRM := Lib.hid hroom
     clear hroom
     go_wp2
     refine start_ (n := 11) (S := fun w' => w'.cell? ⟨g, 2, none⟩ = some (.int .i64 u) ∧ w'.cell? ⟨g, 1, none⟩ = some (.int .i64 bytes)) (ds := []) #[false, false, false, false, false, false, false, false, false, false, false] (by kernel_rfl) rfl rfl ⟨q2, q1⟩ (fun hHeld => ?_)
     generalize wr.drew = wd at DR HBR HOR q1 q2 hHeld ⊢
     refine pure_ (i := 0) (N := some 41) (v := ?_) (a' := ?_) #[true, false, false, false, false, false, false, false, false, false, false] rfl rfl (by kernel_rfl) (fun _ _ _ h => h) (Or.inl ⟨by rfl, ?_⟩) ?_ ?_
     rotate_left
     · intro w'
       go_simp
       with_reducible rfl
     rotate_left
     · simp only [Act.put, nS]
       rfl
     refine pure_ (i := 1) (N := some 42) (v := ?_) (a' := ?_) #[true, true, false, false, false, false, false, false, false, false, false] rfl rfl (by kernel_rfl) (fun _ _ _ h => h) (Or.inl ⟨by rfl, ?_⟩) ?_ ?_
     rotate_left
     · intro w'
       go_simp
       with_reducible rfl
     rotate_left
     · simp only [Act.put, nS]
       rfl
     refine pure_ (i := 2) (N := some 43) (v := ?_) (a' := ?_) #[true, true, true, false, false, false, false, false, false, false, false] rfl rfl (by kernel_rfl) (fun _ _ _ h => h) (Or.inl ⟨by rfl, ?_⟩) ?_ ?_
     rotate_left
     · intro w'
       go_simp
       with_reducible rfl
     rotate_left
     · simp only [Act.put, nS]
       rfl
     refine pure_ (i := 4) (N := some 45) (v := ?_) (a' := ?_) #[true, true, true, false, true, false, false, false, false, false, false] rfl rfl (by kernel_rfl) (fun _ _ _ h => h) (Or.inl ⟨by rfl, ?_⟩) ?_ ?_
     rotate_left
     · intro w'
       go_simp
       with_reducible rfl
     rotate_left
     · simp only [Act.put, nS]
       rfl
     refine pure_ (i := 6) (N := some 47) (v := ?_) (a' := ?_) #[true, true, true, false, true, false, true, false, false, false, false] rfl rfl (by kernel_rfl) (fun _ _ _ h => h) (Or.inl ⟨by rfl, ?_⟩) ?_ ?_
     rotate_left
     · intro w'
       go_simp
       with_reducible rfl
     rotate_left
     · simp only [Act.put, nS]
       rfl
     refine pure_ (i := 7) (N := some 48) (v := ?_) (a' := ?_) #[true, true, true, false, true, false, true, true, false, false, false] rfl rfl (by kernel_rfl) (fun _ _ _ h => h) (Or.inl ⟨by rfl, ?_⟩) ?_ ?_
     rotate_left
     · intro w'
       go_simp
       with_reducible rfl
     rotate_left
     · simp only [Act.put, nS]
       rfl
     refine pure_ (i := 8) (N := some 49) (v := ?_) (a' := ?_) #[true, true, true, false, true, false, true, true, true, false, false] rfl rfl (by kernel_rfl) (fun _ _ _ h => h) (Or.inl ⟨by rfl, ?_⟩) ?_ ?_
     rotate_left
     · intro w'
       go_simp
       with_reducible rfl
     rotate_left
     · simp only [Act.put, nS]
       rfl
     refine take_ (i := 3) (N := some 44) (v := ?_) (a' := ?_) #[true, true, true, true, true, false, true, true, true, false, false] rfl rfl (by kernel_rfl) (fun _ _ _ h => h) (Or.inl ⟨by rfl, ?_⟩) hHeld ?_ ?_
     rotate_left
     · rintro w' ⟨s0, s1⟩
       go_simp
       with_reducible rfl
     rotate_left
     · simp only [Act.put, nS]
       rfl
     refine pure_ (i := 5) (N := some 46) (v := ?_) (a' := ?_) #[true, true, true, true, true, true, true, true, true, false, false] rfl rfl (by kernel_rfl) (fun _ _ _ h => h) (Or.inl ⟨by rfl, ?_⟩) ?_ ?_
     rotate_left
     · intro w'
       go_simp
       with_reducible rfl
     rotate_left
     · simp only [Act.put, nS]
       rfl
     refine take_ (i := 9) (N := some 50) (v := ?_) (a' := ?_) #[true, true, true, true, true, true, true, true, true, true, false] rfl rfl (by kernel_rfl) (fun _ _ _ h => h) (Or.inl ⟨by rfl, ?_⟩) hHeld ?_ ?_
     rotate_left
     · rintro w' ⟨s0, s1⟩
       go_simp
       with_reducible rfl
     rotate_left
     · simp only [Act.put, nS]
       rfl
     refine pure_ (i := 10) (N := some 51) (v := ?_) (a' := ?_) #[true, true, true, true, true, true, true, true, true, true, true] rfl rfl (by kernel_rfl) (fun _ _ _ h => h) (Or.inl ⟨by rfl, ?_⟩) ?_ ?_
     rotate_left
     · intro w'
       go_simp
       with_reducible rfl
     rotate_left
     · simp only [Act.put, nS]
       rfl
     refine done_ (by kernel_rfl) ?_
     clear q1 q2 e3 e4
     cases m with
     | nil => exact absurd HZ.out.2.2 (by have := HRM.out; have := HN.out; simp [sumSz]; omega)
     | cons x0 m' =>
       have HU := Lib.hid (show wrap64 (u - x0.sz) = sumSz m' by have h1 := HZ.out; have h2 := HN.out; have h4 := HSZ.out x0 ((others_sub _ l).mem (HM.out.sub.mem List.mem_cons_self)); rw [sum_cons] at h1; have h3 := sum_nonneg m' (fun y hy => HSZ.out y ((others_sub _ l).mem (HM.out.sub.mem (List.mem_cons_of_mem _ hy)))); rw [rl64 (by omega) (by omega)]; omega)
       have HML := Lib.hid (show (x0 :: m').length ≤ 1000000 by have h1 := (HM.out.sub.trans (others_sub _ l)).length_le; have h2 := HN.out; omega)
       have HCK := Lib.hid (show clk ≤ 4611686018427387904 by have h2 := HN.out; omega)
       obtain ⟨⟨g0, g1, ⟨a1, a2, a3⟩, ⟨c1, c2, c3⟩, g4, g5, g6⟩, A0, c0, sz0, t0⟩ := x0
       go_wp2_with (first
        | (go_at_call 73; refine (order_c DR.out HML.out HCK.out).mono ?_; rintro e w6 ⟨v6, rfl, hR6, hb6⟩; obtain ⟨gb, c6, rfl, hcell⟩ := head_cells hR6
           have HB6 := Lib.hid hb6
           have p0 : w6.cell? ⟨gb, 0, none⟩ = some (.string g0) := hcell 0 _ rfl
           have p1 : w6.cell? ⟨gb, 1, none⟩ = some (.int .i64 g1) := hcell 1 _ rfl
           have p2 : w6.cell? ⟨gb, 2, none⟩ = some (.int .i64 a1) := hcell 2 _ rfl
           have p3 : w6.cell? ⟨gb, 3, none⟩ = some (.int .i64 a2) := hcell 3 _ rfl
           have p4 : w6.cell? ⟨gb, 4, none⟩ = some (.int .i64 a3) := hcell 4 _ rfl
           have p5 : w6.cell? ⟨gb, 5, none⟩ = some (.int .i64 c1) := hcell 5 _ rfl
           have p6 : w6.cell? ⟨gb, 6, none⟩ = some (.int .i64 c2) := hcell 6 _ rfl
           have p7 : w6.cell? ⟨gb, 7, none⟩ = some (.int .i64 c3) := hcell 7 _ rfl
           have p8 : w6.cell? ⟨gb, 8, none⟩ = some (.string g4) := hcell 8 _ rfl
           have p9 : w6.cell? ⟨gb, 9, none⟩ = some (.int .i64 g5) := hcell 9 _ rfl
           have p10 : w6.cell? ⟨gb, 10, none⟩ = some (.slice A0 g6.length c0) := hcell 10 _ rfl
           clear hcell hR6 hb6)
        | (go_at_call 71; refine (names_x g0 g1 a1 a2 a3 c1 c2 c3 g4 g5 g6 A0 c0 _).mono ?_; rintro e w7 ⟨rfl, hb7⟩; have HB7 := Lib.hid (HB6.out.trans (hb7.mono HB6.out.size)); clear hb7)
        | (go_at_call 72; refine (drop_x (DR.out.below HB7.out) 0 _ rfl _ HU.out g0 g1 a1 a2 a3 c1 c2 c3 rfl).mono ?_; rintro e w8 ⟨rfl, d8, o8⟩; have D8 := Lib.hid d8; have O8 := Lib.hid ((Only.of_below HB7.out).trans o8); clear d8 o8))
       cases gk with
       | zero => exact absurd HM.out.less (by omega)
       | succ kk =>
         go_roundg kk
         case measure => omega
         case rel =>
          exact ⟨m', D8.out, HOR.out.trans O8.out, (O8.out.block _ (blk_lt HBR.out) HXg.out HXb.out).trans HBR.out, (List.sublist_cons_self _ _).trans HM.out.sub, by rw [← HM.out.fits, fit_go (by have := HRM.out; have := HZ.out.2.2; omega)], by have := HM.out.less; simp only [List.length_cons] at this; omega⟩
   · have e4 : decide (bytes < u + (r.size : Int)) = false := decide_eq_false hroom
     have HRM := Lib.hid hroom
     clear hroom
     go_wp2
     refine start_ (n := 11) (S := fun w' => w'.cell? ⟨g, 2, none⟩ = some (.int .i64 u) ∧ w'.cell? ⟨g, 1, none⟩ = some (.int .i64 bytes)) (ds := []) #[false, false, false, false, false, false, false, false, false, false, false] (by kernel_rfl) rfl rfl ⟨q2, q1⟩ (fun hHeld => ?_)
     generalize wr.drew = wd at DR HBR HOR q1 q2 hHeld ⊢
     refine pure_ (i := 0) (N := some 41) (v := ?_) (a' := ?_) #[true, false, false, false, false, false, false, false, false, false, false] rfl rfl (by kernel_rfl) (fun _ _ _ h => h) (Or.inl ⟨by rfl, ?_⟩) ?_ ?_
     rotate_left
     · intro w'
       go_simp
       with_reducible rfl
     rotate_left
     · simp only [Act.put, nS]
       rfl
     refine pure_ (i := 1) (N := some 42) (v := ?_) (a' := ?_) #[true, true, false, false, false, false, false, false, false, false, false] rfl rfl (by kernel_rfl) (fun _ _ _ h => h) (Or.inl ⟨by rfl, ?_⟩) ?_ ?_
     rotate_left
     · intro w'
       go_simp
       with_reducible rfl
     rotate_left
     · simp only [Act.put, nS]
       rfl
     refine pure_ (i := 2) (N := some 43) (v := ?_) (a' := ?_) #[true, true, true, false, false, false, false, false, false, false, false] rfl rfl (by kernel_rfl) (fun _ _ _ h => h) (Or.inl ⟨by rfl, ?_⟩) ?_ ?_
     rotate_left
     · intro w'
       go_simp
       with_reducible rfl
     rotate_left
     · simp only [Act.put, nS]
       rfl
     refine pure_ (i := 4) (N := some 45) (v := ?_) (a' := ?_) #[true, true, true, false, true, false, false, false, false, false, false] rfl rfl (by kernel_rfl) (fun _ _ _ h => h) (Or.inl ⟨by rfl, ?_⟩) ?_ ?_
     rotate_left
     · intro w'
       go_simp
       with_reducible rfl
     rotate_left
     · simp only [Act.put, nS]
       rfl
     refine pure_ (i := 6) (N := some 47) (v := ?_) (a' := ?_) #[true, true, true, false, true, false, true, false, false, false, false] rfl rfl (by kernel_rfl) (fun _ _ _ h => h) (Or.inl ⟨by rfl, ?_⟩) ?_ ?_
     rotate_left
     · intro w'
       go_simp
       with_reducible rfl
     rotate_left
     · simp only [Act.put, nS]
       rfl
     refine pure_ (i := 7) (N := some 48) (v := ?_) (a' := ?_) #[true, true, true, false, true, false, true, true, false, false, false] rfl rfl (by kernel_rfl) (fun _ _ _ h => h) (Or.inl ⟨by rfl, ?_⟩) ?_ ?_
     rotate_left
     · intro w'
       go_simp
       with_reducible rfl
     rotate_left
     · simp only [Act.put, nS]
       rfl
     refine pure_ (i := 8) (N := some 49) (v := ?_) (a' := ?_) #[true, true, true, false, true, false, true, true, true, false, false] rfl rfl (by kernel_rfl) (fun _ _ _ h => h) (Or.inl ⟨by rfl, ?_⟩) ?_ ?_
     rotate_left
     · intro w'
       go_simp
       with_reducible rfl
     rotate_left
     · simp only [Act.put, nS]
       rfl
     refine take_ (i := 3) (N := some 44) (v := ?_) (a' := ?_) #[true, true, true, true, true, false, true, true, true, false, false] rfl rfl (by kernel_rfl) (fun _ _ _ h => h) (Or.inl ⟨by rfl, ?_⟩) hHeld ?_ ?_
     rotate_left
     · rintro w' ⟨s0, s1⟩
       go_simp
       with_reducible rfl
     rotate_left
     · simp only [Act.put, nS]
       rfl
     refine pure_ (i := 5) (N := some 46) (v := ?_) (a' := ?_) #[true, true, true, true, true, true, true, true, true, false, false] rfl rfl (by kernel_rfl) (fun _ _ _ h => h) (Or.inl ⟨by rfl, ?_⟩) ?_ ?_
     rotate_left
     · intro w'
       go_simp
       with_reducible rfl
     rotate_left
     · simp only [Act.put, nS]
       rfl
     refine take_ (i := 9) (N := some 50) (v := ?_) (a' := ?_) #[true, true, true, true, true, true, true, true, true, true, false] rfl rfl (by kernel_rfl) (fun _ _ _ h => h) (Or.inl ⟨by rfl, ?_⟩) hHeld ?_ ?_
     rotate_left
     · rintro w' ⟨s0, s1⟩
       go_simp
       with_reducible rfl
     rotate_left
     · simp only [Act.put, nS]
       rfl
     refine pure_ (i := 10) (N := some 51) (v := ?_) (a' := ?_) #[true, true, true, true, true, true, true, true, true, true, true] rfl rfl (by kernel_rfl) (fun _ _ _ h => h) (Or.inl ⟨by rfl, ?_⟩) ?_ ?_
     rotate_left
     · intro w'
       go_simp
       with_reducible rfl
     rotate_left
     · simp only [Act.put, nS]
       rfl
     refine done_ (by kernel_rfl) ?_
     clear q1 q2 e3 e4 hHeld
     have q3 : wd.cell? ⟨g, 3, none⟩ = some (.int .i64 clk) := ck DR.out.relay 3 _ rfl
     have q3f := fz DR.out.relay 3
     have e5 : wrap64 (clk + 1) = clk + 1 := rl64 (by have := HN.out; omega) (by have := HN.out; omega)
     go_upto_region 12 with fail
     clear q3 q3f e5
     obtain ⟨dj, oj⟩ := DR.out.clock (clk + 1) (by omega)
     have hbj := (Below.heap_setCell wd ⟨g, 3, none⟩ (.int .i64 (clk + 1)) w.heap.size HXg.out).trans HBR.out
     have DJ := Lib.hid dj
     have HOJ := Lib.hid (HOR.out.trans oj)
     clear dj oj DR HBR HOR
     generalize wd.setCell ⟨g, 3, none⟩ (.int .i64 (clk + 1)) = wj at DJ HOJ hbj ⊢
     have HBJ := Lib.hid hbj
     have pA : wj.cell? ⟨w.heap.size, 10, none⟩ = some (.slice A f6.length c) := ck HBJ.out 10 _ rfl
     have hxj : w.heap.size < wj.heap.size := blk_lt HBJ.out
     clear hbj
     go_upto_region 13 with (go_at_call 74; refine (clone_c f6 A c _ (C_only HW.out HR.out HOJ.out) HPL.out).mono ?_; rintro e w8 ⟨v8, rfl, hR8, hb8⟩; obtain ⟨A9, c9, rfl, hc9, hC9⟩ := Kd.R_reads hR8; have HR8 := Lib.hid hR8; have HB8 := Lib.hid hb8; have HC9 := Lib.hid hc9; have HXW := Lib.hid (show w.heap.size < wj.heap.size from hxj); have pA8 := (hb8.cell (p := ⟨w.heap.size, 10, none⟩) hxj).trans pA; have HBX8 := Lib.hid ((hb8.block _ hxj).trans HBJ.out); have pF := fz HBX8.out 10; clear hR8 hb8 hc9 hC9)
     have HOL_ := Lib.hid ((HOJ.out.trans (Only.of_below HB8.out)).setCell (p := ⟨w.heap.size, 10, none⟩) (.inr (.inr (Nat.le_refl _))) (.slice A9 f6.length c9))
     have HSUB := Lib.hid (HM.out.sub.trans (others_sub _ l))
     have DL_ := Lib.hid ((DJ.out.below HB8.out).box ⟨w.heap.size, 10, none⟩ (.slice A9 f6.length c9) HXg.out HXb.out (fun y hy => (HW.out.good y (HSUB.out.mem hy)).only HOL_.out))
     have HBL_ := Lib.hid (cell_set (cs' := #[.string f0, .int .i64 f1, .int .i64 k1, .int .i64 k2, .int .i64 k3, .int .i64 b1, .int .i64 b2, .int .i64 b3, .string f4, .int .i64 f5, .slice A9 f6.length c9]) HBX8.out 10 (by simp) (.slice A9 f6.length c9) rfl)
     have HRL_ := Lib.hid (Kd.R_far (Kd.R_mono (ok' := fun k => wj.heap.size ≤ k) (Kd.R_bound HR8.out) (fun k hk => hk.2.1)) (p := ⟨w.heap.size, 10, none⟩) (fun k hk e => by have h_ := HXW.out; have hk' : wj.heap.size ≤ k := hk; have e' : k = w.heap.size := e; omega) (.slice A9 f6.length c9))
     clear pA pA8 pF hxj HBX8 HR8 HB8 HBJ
     generalize w8.setCell ⟨w.heap.size, 10, none⟩ (.slice A9 f6.length c9) = wl at HOL_ DL_ HBL_ HRL_ ⊢
     have HOL := Lib.hid (show Only g b w wl.drew from HOL_.out.drewN 1)
     have DL := Lib.hid DL_.out.drew
     have HBL := Lib.hid (show wl.drew.heap[w.heap.size]? = _ from HBL_.out)
     have HRL := Lib.hid (Kd.R_drew HRL_.out)
     have HGW := Lib.hid (show g < wj.heap.size ∧ b < wj.heap.size from ⟨blk_lt DJ.out.relay, by obtain ⟨es, mc, hm, _⟩ := DJ.out.map; exact blk_lt hm⟩)
     have HGD := Lib.hid (show (⟨⟨f0, f1, ⟨k1, k2, k3⟩, ⟨b1, b2, b3⟩, f4, f5, f6⟩, A9, c9, (r.size : Int), clk + 1⟩ : Kp).Good wl.drew g b from ⟨HOK.out, HC9.out, F_of_R HRL.out _ (fun k h1 h2 => ⟨⟨by have := HGW.out.1; omega, by have := HGW.out.2; omega⟩, h2⟩)⟩)
     have HNEW := Lib.hid (show ∀ y ∈ m, y.nm ≠ ⟨f0, f1, k1, k2, k3, b1, b2, b3⟩ from fun y hy => others_ne y (HM.out.sub.mem hy))
     have HT1 := Lib.hid (show 0 < clk + 1 by have := HN.out; omega)
     have HT2 := Lib.hid (show clk + 1 ≤ clk + 1 from Int.le_refl _)
     have HT3 := Lib.hid (show ∀ y ∈ m, y.t < clk + 1 from fun y hy => by have := (HM.out.rel.times y hy).2; omega)
     clear HOL_ DL_ HBL_ HRL_ DJ HOJ
     have qg : wl.drew.cell? ⟨g, 4, none⟩ = some (.map (some b)) := ck DL.out.relay 4 _ rfl
     have q3 : wl.drew.cell? ⟨g, 3, none⟩ = some (.int .i64 (clk + 1)) := ck DL.out.relay 3 _ rfl
     have p0 : wl.drew.cell? ⟨w.heap.size, 0, none⟩ = some (.string f0) := ck HBL.out 0 _ rfl
     have p1 : wl.drew.cell? ⟨w.heap.size, 1, none⟩ = some (.int .i64 f1) := ck HBL.out 1 _ rfl
     have p2 : wl.drew.cell? ⟨w.heap.size, 2, none⟩ = some (.int .i64 k1) := ck HBL.out 2 _ rfl
     have p3 : wl.drew.cell? ⟨w.heap.size, 3, none⟩ = some (.int .i64 k2) := ck HBL.out 3 _ rfl
     have p4 : wl.drew.cell? ⟨w.heap.size, 4, none⟩ = some (.int .i64 k3) := ck HBL.out 4 _ rfl
     have p5 : wl.drew.cell? ⟨w.heap.size, 5, none⟩ = some (.int .i64 b1) := ck HBL.out 5 _ rfl
     have p6 : wl.drew.cell? ⟨w.heap.size, 6, none⟩ = some (.int .i64 b2) := ck HBL.out 6 _ rfl
     have p7 : wl.drew.cell? ⟨w.heap.size, 7, none⟩ = some (.int .i64 b3) := ck HBL.out 7 _ rfl
     have p8 : wl.drew.cell? ⟨w.heap.size, 8, none⟩ = some (.string f4) := ck HBL.out 8 _ rfl
     have p9 : wl.drew.cell? ⟨w.heap.size, 9, none⟩ = some (.int .i64 f5) := ck HBL.out 9 _ rfl
     have p10 : wl.drew.cell? ⟨w.heap.size, 10, none⟩ = some (.slice A9 f6.length c9) := ck HBL.out 10 _ rfl
     have lg : g < wl.drew.heap.size := blk_lt DL.out.relay
     have lx : w.heap.size < wl.drew.heap.size := blk_lt HBL.out
     refine start_ (n := 14) (S := fun w' => w'.cell? ⟨g, 4, none⟩ = some (.map (some b)) ∧ w'.cell? ⟨g, 3, none⟩ = some (.int .i64 (clk + 1)) ∧ w'.cell? ⟨w.heap.size, 0, none⟩ = some (.string f0) ∧ w'.cell? ⟨w.heap.size, 1, none⟩ = some (.int .i64 f1) ∧ w'.cell? ⟨w.heap.size, 2, none⟩ = some (.int .i64 k1) ∧ w'.cell? ⟨w.heap.size, 3, none⟩ = some (.int .i64 k2) ∧ w'.cell? ⟨w.heap.size, 4, none⟩ = some (.int .i64 k3) ∧ w'.cell? ⟨w.heap.size, 5, none⟩ = some (.int .i64 b1) ∧ w'.cell? ⟨w.heap.size, 6, none⟩ = some (.int .i64 b2) ∧ w'.cell? ⟨w.heap.size, 7, none⟩ = some (.int .i64 b3) ∧ w'.cell? ⟨w.heap.size, 8, none⟩ = some (.string f4) ∧ w'.cell? ⟨w.heap.size, 9, none⟩ = some (.int .i64 f5) ∧ w'.cell? ⟨w.heap.size, 10, none⟩ = some (.slice A9 f6.length c9)) (ds := [13]) #[false, false, false, false, false, false, false, false, false, false, false, false, false, false] (by kernel_rfl) rfl rfl ⟨qg, q3, p0, p1, p2, p3, p4, p5, p6, p7, p8, p9, p10⟩ (fun hHeld => ?_)
     generalize wl.drew = wd at DL HBL HOL HRL HGD qg q3 p0 p1 p2 p3 p4 p5 p6 p7 p8 p9 p10 lg lx hHeld ⊢; have HX := Lib.hid (Below.refl wd.heap.size wd)
     refine pure_ (i := 0) (N := some 71) (v := ?_) (a' := ?_) #[true, false, false, false, false, false, false, false, false, false, false, false, false, false] rfl rfl (by kernel_rfl) (fun _ _ _ h => h) (Or.inl ⟨by rfl, ?_⟩) ?_ ?_
     rotate_left
     · intro w'
       go_simp
       with_reducible rfl
     rotate_left
     · simp only [Act.put, nS]
       rfl
     refine pure_ (i := 1) (N := some 72) (v := ?_) (a' := ?_) #[true, true, false, false, false, false, false, false, false, false, false, false, false, false] rfl rfl (by kernel_rfl) (fun _ _ _ h => h) (Or.inl ⟨by rfl, ?_⟩) ?_ ?_
     rotate_left
     · intro w'
       go_simp
       with_reducible rfl
     rotate_left
     · simp only [Act.put, nS]
       rfl
     refine pure_ (i := 2) (N := some 73) (v := ?_) (a' := ?_) #[true, true, true, false, false, false, false, false, false, false, false, false, false, false] rfl rfl (by kernel_rfl) (fun _ _ _ h => h) (Or.inl ⟨by rfl, ?_⟩) ?_ ?_
     rotate_left
     · intro w'
       go_simp
       with_reducible rfl
     rotate_left
     · simp only [Act.put, nS]
       rfl
     refine pure_ (i := 7) (N := some 78) (v := ?_) (a' := ?_) #[true, true, true, false, false, false, false, true, false, false, false, false, false, false] rfl rfl (by kernel_rfl) (fun _ _ _ h => h) (Or.inl ⟨by rfl, ?_⟩) ?_ ?_
     rotate_left
     · intro w'
       go_simp
       with_reducible rfl
     rotate_left
     · simp only [Act.put, nS]
       rfl
     refine pure_ (i := 8) (N := some 79) (v := ?_) (a' := ?_) #[true, true, true, false, false, false, false, true, true, false, false, false, false, false] rfl rfl (by kernel_rfl) (fun _ _ _ h => h) (Or.inl ⟨by rfl, ?_⟩) ?_ ?_
     rotate_left
     · intro w'
       go_simp
       with_reducible rfl
     rotate_left
     · simp only [Act.put, nS]
       rfl
     refine pure_ (i := 9) (N := some 80) (v := ?_) (a' := ?_) #[true, true, true, false, false, false, false, true, true, true, false, false, false, false] rfl rfl (by kernel_rfl) (fun _ _ _ h => h) (Or.inl ⟨by rfl, ?_⟩) ?_ ?_
     rotate_left
     · intro w'
       go_simp
       with_reducible rfl
     rotate_left
     · simp only [Act.put, nS]
       rfl
     refine pure_ (i := 10) (N := some 81) (v := ?_) (a' := ?_) #[true, true, true, false, false, false, false, true, true, true, true, false, false, false] rfl rfl (by kernel_rfl) (fun _ _ _ h => h) (Or.inl ⟨by rfl, ?_⟩) ?_ ?_
     rotate_left
     · intro w'
       go_simp
       with_reducible rfl
     rotate_left
     · simp only [Act.put, nS]
       rfl
     refine take_ (i := 3) (N := some 74) (v := ?_) (a' := ?_) #[true, true, true, true, false, false, false, true, true, true, true, false, false, false] rfl rfl (by kernel_rfl) (fun _ _ _ h => h) (Or.inl ⟨by rfl, ?_⟩) hHeld ?_ ?_
     rotate_left
     · rintro w' ⟨s0, s1, s2, s3, s4, s5, s6, s7, s8, s9, s10, s11, s12⟩
       go_simp
       with_reducible rfl
     rotate_left
     · simp only [Act.put, nS]
       rfl
     refine take_ (i := 4) (N := some 75) (v := ?_) (a' := ?_) #[true, true, true, true, true, false, false, true, true, true, true, false, false, false] rfl rfl (by kernel_rfl) (fun _ _ _ h => h) (Or.inl ⟨by rfl, ?_⟩) hHeld ?_ ?_
     rotate_left
     · rintro w' ⟨s0, s1, s2, s3, s4, s5, s6, s7, s8, s9, s10, s11, s12⟩
       go_simp
       with_reducible rfl
     rotate_left
     · simp only [Act.put, nS]
       rfl
     refine take_ (i := 6) (N := some 77) (v := ?_) (a' := ?_) #[true, true, true, true, true, false, true, true, true, true, true, false, false, false] rfl rfl (by kernel_rfl) (fun _ _ _ h => h) (Or.inl ⟨by rfl, ?_⟩) hHeld ?_ ?_
     rotate_left
     · rintro w' ⟨s0, s1, s2, s3, s4, s5, s6, s7, s8, s9, s10, s11, s12⟩
       go_simp
       with_reducible rfl
     rotate_left
     · simp only [Act.put, nS]
       rfl
     refine take_ (i := 11) (N := some 82) (v := ?_) (a' := ?_) #[true, true, true, true, true, false, true, true, true, true, true, true, false, false] rfl rfl (by kernel_rfl) (fun _ _ _ h => h) (Or.inl ⟨by rfl, ?_⟩) hHeld ?_ ?_
     rotate_left
     · rintro w' ⟨s0, s1, s2, s3, s4, s5, s6, s7, s8, s9, s10, s11, s12⟩
       go_simp
       with_reducible rfl
     rotate_left
     · simp only [Act.put, nS]
       rfl
     refine pure_ (i := 12) (N := some 83) (v := ?_) (a' := ?_) #[true, true, true, true, true, false, true, true, true, true, true, true, true, false] rfl rfl (by kernel_rfl) (fun _ _ _ h => h) (Or.inl ⟨by rfl, ?_⟩) ?_ ?_
     rotate_left
     · intro w'
       go_simp
       with_reducible rfl
     rotate_left
     · simp only [Act.put, nS]
       rfl
     refine one_ (i := 5) (N := some 76) #[true, true, true, true, true, true, true, true, true, true, true, true, true, false] rfl rfl (by kernel_rfl) (by decide) (fun K hK => ?_)
     refine goes_ Try.func71 (by kernel_rfl) rfl #[.agg #[.string f0, .int .i64 f1, .int .i64 k1, .int .i64 k2, .int .i64 k3, .int .i64 b1, .int .i64 b2, .int .i64 b3, .string f4, .int .i64 f5, .slice A9 f6.length c9]] (by rfl) rfl rfl zax1 ?_
     with_reducible refine (names_x f0 f1 k1 k2 k3 b1 b2 b3 f4 f5 f6 A9 c9 _).mono ?_
     rintro e wx ⟨rfl, hbx⟩
     refine ⟨_, rfl, ?_⟩
     have n_ := Lib.hid (HX.out.trans (hbx.mono HX.out.size)); clear HX; have HX := n_; clear n_
     refine hK.out _ _ ⟨(HX.out.cell lg).trans qg, (HX.out.cell lg).trans q3, (HX.out.cell lx).trans p0, (HX.out.cell lx).trans p1, (HX.out.cell lx).trans p2, (HX.out.cell lx).trans p3, (HX.out.cell lx).trans p4, (HX.out.cell lx).trans p5, (HX.out.cell lx).trans p6, (HX.out.cell lx).trans p7, (HX.out.cell lx).trans p8, (HX.out.cell lx).trans p9, (HX.out.cell lx).trans p10⟩ (fun hHeld => norm_ zax0 ?_)
     clear hK K
     refine last_ (i := 13) (N := none) #[true, true, true, true, true, true, true, true, true, true, true, true, true, true] rfl rfl (by kernel_rfl) (by decide) (fun K hK => ?_)
     obtain ⟨wp, hpush, dpush, opush⟩ := push_x (DL.out.below HX.out) f0 f1 k1 k2 k3 b1 b2 b3 f4 f5 f6 A9 c9 (r.size : Int) (clk + 1) (HGD.out.below HX.out) HNEW.out HT1.out HT2.out HT3.out
     refine skip_ (w1 := ?_) (by rfl) rfl ?_ ?_
     rotate_left
     · go_simp
       rfl
     refine hK.out _ _ ?_
     clear hK K
     refine done_ (by kernel_rfl) ?_
     have HXP := Lib.hid (HOL.out.trans ((Only.of_below HX.out).trans opush))
     have DP := Lib.hid dpush
     clear qg q3 p0 p1 p2 p3 p4 p5 p6 p7 p8 p9 p10 lg lx hpush dpush opush
     have q2 : wp.cell? ⟨g, 2, none⟩ = some (.int .i64 u) := ck DP.out.relay 2 _ rfl
     have q2f := fz DP.out.relay 2
     have e3 : wrap64 (u + (r.size : Int)) = u + (r.size : Int) := rl64 zax3 zax3
     go_wp2
     go_ret
     obtain ⟨de, oe⟩ := DP.out.used (u + (r.size : Int))
     have hfit : fit (others ⟨f0, f1, k1, k2, k3, b1, b2, b3⟩ l) (bytes - r.size) = m := by rw [← HM.out.fits]; exact fit_stop (by have := HRM.out; have := HZ.out.2.2; omega)
     refine ⟨rfl, HXP.out.trans oe, ⟨⟨f0, f1, ⟨k1, k2, k3⟩, ⟨b1, b2, b3⟩, f4, f5, f6⟩, A9, c9, (r.size : Int), clk + 1⟩, rfl, rfl, rfl, ?_⟩
     rw [show others (nmOf ⟨f0, f1, ⟨k1, k2, k3⟩, ⟨b1, b2, b3⟩, f4, f5, f6⟩) l = others ⟨f0, f1, k1, k2, k3, b1, b2, b3⟩ l from rfl, hfit]
     have hs : u + (r.size : Int) = sumSz (m ++ [⟨⟨f0, f1, ⟨k1, k2, k3⟩, ⟨b1, b2, b3⟩, f4, f5, f6⟩, A9, c9, (r.size : Int), clk + 1⟩]) := by rw [HZ.out.2.2]; simp [sumSz]
     rw [← hs]
     exact de
end Go.Proofs.Ythokkeljfdfppaa.Rl
