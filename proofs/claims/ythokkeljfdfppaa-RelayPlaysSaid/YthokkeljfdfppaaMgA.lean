/- Several texts of this claim, one behind the other: RlA, RlB, RlC, RlD, RlE, Srt, RlS, RlF, RlG, RlH, RlI. -/
import Derived.Test.YthokkeljfdfppaaMgY
import Derived.WideKeyEntry
import Derived.DeepKeys4
import Derived.Maps.RangeRun
import Derived.Test.YthokkeljfdfppaaPby3
import Derived.WideMake
import Derived.Maps.RangeWalk
import Derived.Test.YthokkeljfdfppaaProg
import Derived.Shelf.SlSortCmp.WholeK
import Derived.Shelf.SlSortCmp.NoneTotal
/- The relay's map: names as keys, and what is done with it. -/
set_option linter.unusedVariables false
set_option linter.unusedSimpArgs false
namespace Go.Proofs.Ythokkeljfdfppaa.Rl
open Go.RowKit Go.Proofs.YthokkeljfdfppaaW.PrintWords Go.Proofs.YthokkeljfdfppaaW.PrintLast Go.Proofs.YthokkeljfdfppaaW.PrintMore Go.Proofs.Ythokkeljfdfppaa.Pb Go.Proofs.Ythokkeljfdfppaa.Gw Go.WideMaps Go.WideElems
open Go.ChangeShapes Go.WideShapes Go.MapKept
open Go.ChangeMaps (modify_eq_set setBlock keptBut_setBlock heap_setBlock_same heap_setBlock_other)
theorem zaa2 {p : Prop} (h : p := by rintro w' ⟨s0, s1, s2, s3, s4, s5, s6, s7, s8, s9, s10⟩; go_simp; with_reducible rfl) : p := h
theorem zaa1 {p : Prop} (h : p := by intro w'; go_simp; with_reducible rfl) : p := h
theorem zaa0 {p : Prop} (h : p := by simp only [Act.put, nS]; rfl) : p := h
structure Nm where
 f : ByteArray
 v : Int
 k1 : Int
 k2 : Int
 k3 : Int
 b1 : Int
 b2 : Int
 b3 : Int
deriving DecidableEq
def Nm.cells (n : Nm) : Array Value := #[.string n.f, .int .i64 n.v, .int .i64 n.k1, .int .i64 n.k2, .int .i64 n.k3, .int .i64 n.b1, .int .i64 n.b2, .int .i64 n.b3]
def Nm.val (n : Nm) : Value := .agg n.cells
def I64 (x : Int) : Prop := -9223372036854775808 ≤ x ∧ x ≤ 9223372036854775807
structure Nm.Ok (n : Nm) : Prop where
 f : n.f.size ≤ 9223372036854775807
 v : I64 n.v
 k1 : I64 n.k1
 k2 : I64 n.k2
 k3 : I64 n.k3
 b1 : I64 n.b1
 b2 : I64 n.b2
 b3 : I64 n.b3
theorem undN : Try.prog.underlying 120 = some (.struct #[⟨"font", 9, 0, false, "", "abugida/relay", 0⟩, ⟨"version", 3, 1, false, "", "abugida/relay", 16⟩, ⟨"key", 52, 2, false, "", "abugida/relay", 24⟩, ⟨"base", 52, 5, false, "", "abugida/relay", 48⟩]) := by kernel_rfl
theorem undM : Try.prog.underlying 80 = some (.map 120 117) := by kernel_rfl
theorem laidOut : laidOutB Try.prog = true := by kernel_rfl
theorem rowN : (120 : TypeId) < Try.prog.types.size := of_decide_eq_true (by kernel_rfl)
theorem lawN : KeyLaw Try.prog 120 := deep_law_laid laidOut (m := 3) (by omega) rowN (by kernel_rfl) (by rw [undN])
theorem kTypeN : Try.prog.keyType 120 = true := by kernel_rfl
theorem undK : Try.prog.underlying 52 = some (.struct #[⟨"Kind", 3, 0, false, "", "", 0⟩, ⟨"N", 3, 1, false, "", "", 8⟩, ⟨"Region", 3, 2, false, "", "", 16⟩]) := by kernel_rfl
theorem undI : Try.prog.underlying 3 = some (.int .i64) := by kernel_rfl
theorem undS : Try.prog.underlying 9 = some .string := by kernel_rfl
theorem cellsN : Try.prog.cellsOf 120 = 8 := by kernel_rfl
theorem cellsK : Try.prog.cellsOf 52 = 3 := by kernel_rfl
theorem cellsI : Try.prog.cellsOf 3 = 1 := by kernel_rfl
theorem cellsS : Try.prog.cellsOf 9 = 1 := by kernel_rfl
theorem lits_int (d : Nat) (x : Int) (h : I64 x) : Try.prog.keyLits (d + 1) 3 [.int .i64 x] = some [.int .i64 x] := by
 rw [Program.keyLits.eq_def]
 simp only [undI]
 rw [if_pos ⟨trivial, by simp [Lit.wf, IntKind.min, IntKind.max, IntKind.signed, IntKind.bits]; exact h⟩]
theorem lits_str (d : Nat) (s : ByteArray) (h : s.size ≤ 9223372036854775807) : Try.prog.keyLits (d + 1) 9 [.string s] = some [.string s.data.toList] := by
 rw [Program.keyLits.eq_def]
 simp only [undS]
 rw [if_pos (show s.size ≤ maxLen from h)]
theorem lits_key (d : Nat) (x y z : Int) (hx : I64 x) (hy : I64 y) (hz : I64 z) : Try.prog.keyLits (d + 2) 52 [.int .i64 x, .int .i64 y, .int .i64 z] = some [.int .i64 x, .int .i64 y, .int .i64 z] := by
 rw [Program.keyLits.eq_def]
 simp only [undK, cellsK, cellsI]
 rw [if_pos ⟨rfl, by decide +kernel⟩]
 simp [cellsI, lits_int d _ hx, lits_int d _ hy, lits_int d _ hz]
theorem nm_key (n : Nm) (h : n.Ok) : ∃ l, keyOf Try.prog 120 n.val = some l := by
 have hf : n.val.formed Try.prog 120 = true := by simp [Nm.val, Nm.cells, Value.formed, undN, cellsN]
 obtain ⟨m, hm⟩ : ∃ m, Try.prog.types.size + 1 = m + 3 := ⟨Try.prog.types.size - 2, by have h : (120 : Nat) < Try.prog.types.size := rowN; omega⟩
 unfold keyOf
 rw [undN]
 simp only [kTypeN, hf, Bool.and_self, if_true]
 rw [hm, Program.keyLits.eq_def]
 have hc : n.val.cells.toList = [.string n.f, .int .i64 n.v, .int .i64 n.k1, .int .i64 n.k2, .int .i64 n.k3, .int .i64 n.b1, .int .i64 n.b2, .int .i64 n.b3] := rfl
 rw [hc]
 simp only [undN, cellsN, cellsK, cellsI, cellsS]
 rw [if_pos ⟨rfl, by decide +kernel⟩]
 simp [cellsI, cellsK, cellsS, lits_str _ _ h.f, lits_int _ _ h.v, lits_key _ _ _ _ h.k1 h.k2 h.k3, lits_key _ _ _ _ h.b1 h.b2 h.b3]
theorem nm_inj {a b : Nm} (e : a.val = b.val) : a = b := by
 cases a; cases b
 simp [Nm.val, Nm.cells] at e
 simp [e]
def KeysOk (es : Array MapEntry) : Prop := ∀ e ∈ es.toList, ∃ n : Nm, n.Ok ∧ e.key = n.val
theorem KeysOk.keys {es : Array MapEntry} (h : KeysOk es) : ∀ e ∈ es.toList, ∃ l, keyOf Try.prog 120 e.key = some l := fun e he => by
 obtain ⟨n, h1, h2⟩ := h e he
 rw [h2]
 exact nm_key n h1
theorem idx_of {l : List MapEntry} (hp : l.Pairwise (fun x y => x.key ≠ y.key)) {i j : Nat} {x y : MapEntry} (hi : l[i]? = some x) (hj : l[j]? = some y) (h : x.key = y.key) : i = j := by
 obtain ⟨a1, a2⟩ := List.getElem?_eq_some_iff.1 hi
 obtain ⟨b1, b2⟩ := List.getElem?_eq_some_iff.1 hj
 rw [List.pairwise_iff_getElem] at hp
 by_cases c : i < j
 · exact absurd (by rw [a2, b2, h]) (hp i j a1 b1 c)
 · by_cases c2 : j < i
   · exact absurd (by rw [a2, b2, h]) (hp j i b1 a1 c2)
   · omega
theorem run_lookup_hit {w : World} {b : Nat} {es : Array MapEntry} {clock : Nat} (hb : w.heap[b]? = some (.map es clock)) (hk : KeysOk es) (n : Nm) (hn : n.Ok) (j : Nat) (e0 : MapEntry) (hj : es.toList[j]? = some e0) (he : e0.key = n.val) (hp : es.toList.Pairwise (fun x y => x.key ≠ y.key)) (ok : Bool) :
 (Instr.lookup 80 (.map (some b)) n.val ok).run Try.prog w = .ok (if ok then .tuple #[e0.val, .bool true] else e0.val) w := by
 obtain ⟨kl, hkey⟩ := nm_key n hn
 rcases lawN.find w hkey es.toList hk.keys with ⟨h1, h2⟩ | ⟨i, e1, h1, h2, h3⟩
 · exact absurd he (h2 e0 (List.mem_of_getElem? hj))
 · obtain rfl := idx_of hp h2 hj (h3.trans he.symm)
   obtain rfl : e1 = e0 := Option.some.inj (h2.symm.trans hj)
   simp [Instr.lookup, run_underlying undM, MapKept.run_getObj_map hb, lawN.check w _ hkey, h1, Result.andThen]
theorem run_lookup_miss {w : World} {b : Nat} {es : Array MapEntry} {clock : Nat} (hb : w.heap[b]? = some (.map es clock)) (hk : KeysOk es) (n : Nm) (hn : n.Ok) (hm : ∀ e ∈ es.toList, e.key ≠ n.val) (z : Value) (hz : ∀ w : World, (zeroValue 117).run Try.prog w = .ok z w) (ok : Bool) :
 (Instr.lookup 80 (.map (some b)) n.val ok).run Try.prog w = .ok (if ok then .tuple #[z, .bool false] else z) w := by
 obtain ⟨kl, hkey⟩ := nm_key n hn
 rcases lawN.find w hkey es.toList hk.keys with ⟨h1, h2⟩ | ⟨i, e1, h1, h2, h3⟩
 · simp [Instr.lookup, run_underlying undM, MapKept.run_getObj_map hb, lawN.check w _ hkey, h1, hz, Result.andThen]
 · exact absurd h3 (hm e1 (List.mem_of_getElem? h2))
theorem run_update_new {w : World} {b : Nat} {es : Array MapEntry} {clock : Nat} (hb : w.heap[b]? = some (.map es clock)) (hk : KeysOk es) (n : Nm) (hn : n.Ok) (hm : ∀ e ∈ es.toList, e.key ≠ n.val) (val : Value) :
 (Instr.mapUpdate 80 (.map (some b)) n.val val).run Try.prog w = .ok () (setBlock w b (.map (es.push ⟨n.val, val, clock⟩) (clock + 1))) := by
 obtain ⟨kl, hkey⟩ := nm_key n hn
 rcases lawN.find w hkey es.toList hk.keys with ⟨h1, h2⟩ | ⟨i, e1, h1, h2, h3⟩
 · simp [Instr.mapUpdate, run_underlying undM, MapKept.run_getObj_map hb, lawN.check w _ hkey, h1, MapKept.run_setObj_map _ hb, Result.andThen, setBlock]
 · exact absurd h3 (hm e1 (List.mem_of_getElem? h2))
theorem run_delete_hit {w : World} {b : Nat} {es : Array MapEntry} {clock : Nat} (hb : w.heap[b]? = some (.map es clock)) (hk : KeysOk es) (n : Nm) (hn : n.Ok) (j : Nat) (e0 : MapEntry) (hj : es.toList[j]? = some e0) (he : e0.key = n.val) (hp : es.toList.Pairwise (fun x y => x.key ≠ y.key)) (ty : TypeId) :
 (Builtin.delete_ #[80, 120] ty #[.map (some b), n.val]).run Try.prog w = .ok (.tuple #[]) (setBlock w b (.map (es.eraseIdxIfInBounds j) clock)) := by
 obtain ⟨kl, hkey⟩ := nm_key n hn
 rcases lawN.find w hkey es.toList hk.keys with ⟨h1, h2⟩ | ⟨i, e1, h1, h2, h3⟩
 · exact absurd he (h2 e0 (List.mem_of_getElem? hj))
 · obtain rfl := idx_of hp h2 hj (h3.trans he.symm)
   simp [Builtin.delete_, run_underlying undM, MapKept.run_getObj_map hb, lawN.check w _ hkey, h1, MapKept.run_setObj_map _ hb, Result.andThen, setBlock]
structure Kp where
 p : S55
 A : Option Addr
 c : Nat
 sz : Int
 t : Int
def nmOf (p : S55) : Nm := ⟨p.f0, p.f1, p.f2.f0, p.f2.f1, p.f2.f2, p.f3.f0, p.f3.f1, p.f3.f2⟩
def Kp.nm (x : Kp) : Nm := nmOf x.p
def pcells (p : S55) (A : Option Addr) (c : Nat) : List Value := [.string p.f0, .int .i64 p.f1, .int .i64 p.f2.f0, .int .i64 p.f2.f1, .int .i64 p.f2.f2, .int .i64 p.f3.f0, .int .i64 p.f3.f1, .int .i64 p.f3.f2, .string p.f4, .int .i64 p.f5, .slice A p.f6.length c]
def Kp.cells (x : Kp) : List Value := [.string x.p.f0, .int .i64 x.p.f1, .int .i64 x.p.f2.f0, .int .i64 x.p.f2.f1, .int .i64 x.p.f2.f2, .int .i64 x.p.f3.f0, .int .i64 x.p.f3.f1, .int .i64 x.p.f3.f2, .string x.p.f4, .int .i64 x.p.f5, .slice x.A x.p.f6.length x.c, .int .i64 x.sz, .int .i64 x.t]
def Kp.val (x : Kp) : Value := .agg x.cells.toArray
structure Ents (es : Array MapEntry) (mc : Nat) (l : List Kp) : Prop where
 same : es.toList.map (fun e => (e.key, e.val)) = l.map (fun x => (x.nm.val, x.val))
 born : ∀ e ∈ es.toList, e.born < mc
 nodup : (es.toList.map (·.born)).Nodup
structure Only (g b : Nat) (w w' : World) : Prop where
 os : w'.os = w.os
 tape : w'.tape = w.tape
 output : w'.output = w.output
 size : w.heap.size ≤ w'.heap.size
 block : ∀ k, k < w.heap.size → k ≠ g → k ≠ b → w'.heap[k]? = w.heap[k]?
theorem Only.refl (g b : Nat) (w : World) : Only g b w w := ⟨rfl, rfl, rfl, Nat.le_refl _, fun _ _ _ _ => rfl⟩
theorem Only.trans {g b : Nat} {w w1 w2 : World} (h : Only g b w w1) (k : Only g b w1 w2) : Only g b w w2 :=
 ⟨k.os.trans h.os, k.tape.trans h.tape, k.output.trans h.output, Nat.le_trans h.size k.size, fun i hi h1 h2 => (k.block i (Nat.lt_of_lt_of_le hi h.size) h1 h2).trans (h.block i hi h1 h2)⟩
theorem Only.of_below {g b : Nat} {w w1 : World} (h : Below w.heap.size w w1) : Only g b w w1 := ⟨h.os, h.tape, h.output, h.size, fun i hi _ _ => h.block i hi⟩
theorem Only.kept {g b : Nat} {w w1 : World} (h : Only g b w w1) : Kept w w1 (fun k => k = g ∨ k = b) := ⟨h.size, fun i hi hn => h.block i hi (fun e => hn (.inl e)) (fun e => hn (.inr e))⟩
theorem Only.below {B g b : Nat} {w0 w w1 : World} (hb : Below B w0 w) (h : Only g b w w1) (hg : B ≤ g) (hb' : B ≤ b) (hw : B ≤ w.heap.size) : Below B w0 w1 :=
 ⟨h.os.trans hb.os, h.tape.trans hb.tape, h.output.trans hb.output, Nat.le_trans hb.size h.size, fun i hi => (h.block i (by omega) (by omega) (by omega)).trans (hb.block i hi)⟩
theorem Only.setCell {g b : Nat} {w w1 : World} (h : Only g b w w1) {p : Addr} (hp : p.block = g ∨ p.block = b ∨ w.heap.size ≤ p.block) (u : Value) : Only g b w (w1.setCell p u) :=
 ⟨(by unfold World.setCell; split <;> exact h.os), (by unfold World.setCell; split <;> exact h.tape), (by unfold World.setCell; split <;> exact h.output), (by have := h.size; unfold World.setCell; split <;> simp <;> omega), fun i hi h1 h2 => (Below.heap_setCell w1 p u i (by rcases hp with hp | hp | hp <;> omega)).trans (h.block i hi h1 h2)⟩
theorem Only.setBlock {g b : Nat} {w w1 : World} (h : Only g b w w1) {es : Array MapEntry} {clock : Nat} (hb : w1.heap[b]? = some (.map es clock)) (o : Obj) : Only g b w (setBlock w1 b o) :=
 ⟨h.os, h.tape, h.output, (by have := h.size; simp [ChangeMaps.setBlock]; omega), fun i hi h1 h2 => (heap_setBlock_other hb o h2).trans (h.block i hi h1 h2)⟩
theorem Only.drewN {g b : Nat} {w w1 : World} (h : Only g b w w1) (m : Nat) : Only g b w (w1.drewN m) := h.trans (Only.of_below (pw_below_drewN (Below.refl _ _) m))
structure Kp.Good (w : World) (g b : Nat) (x : Kp) : Prop where
 ok : x.nm.Ok
 cap : x.p.f6.length ≤ x.c
 row : Kd.F Kd.string w (fun k => (k ≠ g ∧ k ≠ b) ∧ k < w.heap.size) x.A x.p.f6.length x.p.f6
theorem Kp.Good.only {w w1 : World} {g b : Nat} {x : Kp} (h : x.Good w g b) (ho : Only g b w w1) : x.Good w1 g b :=
 ⟨h.ok, h.cap, Kd.F_mono (Kd.F_kept h.row ho.kept (fun k hk e => by rcases e with e | e; exact hk.1.1 e; exact hk.1.2 e)) (fun k hk => ⟨hk.1, Nat.lt_of_lt_of_le hk.2 ho.size⟩)⟩
structure RelIs (w : World) (g b : Nat) (no bytes used clk : Int) (l : List Kp) : Prop where
 relay : w.heap[g]? = some (.cells #[.int .i64 no, .int .i64 bytes, .int .i64 used, .int .i64 clk, .map (some b)] 82 (0, 0))
 map : ∃ es mc, w.heap[b]? = some (.map es mc) ∧ Ents es mc l
 apart : l.Pairwise (fun x y => x.nm ≠ y.nm)
 good : ∀ x ∈ l, x.Good w g b
 sorted : l.Pairwise (fun x y => x.t < y.t)
 times : ∀ x ∈ l, 0 < x.t ∧ x.t ≤ clk
theorem RelIs.gb {w : World} {g b : Nat} {no bytes used clk : Int} {l : List Kp} (h : RelIs w g b no bytes used clk l) : g ≠ b := by
 obtain ⟨es, mc, hm, _⟩ := h.map
 intro e
 have := h.relay
 rw [e, hm] at this
 cases this
theorem RelIs.below {w w1 : World} {g b : Nat} {no bytes used clk : Int} {l : List Kp} (h : RelIs w g b no bytes used clk l) (hb : Below w.heap.size w w1) : RelIs w1 g b no bytes used clk l := by
 obtain ⟨es, mc, hm, hE⟩ := h.map
 exact ⟨(hb.block g (blk_lt h.relay)).trans h.relay, ⟨es, mc, (hb.block b (blk_lt hm)).trans hm, hE⟩, h.apart, fun x hx => (h.good x hx).only (Only.of_below hb), h.sorted, h.times⟩
theorem Ents.keys {es : Array MapEntry} {mc : Nat} {l : List Kp} (h : Ents es mc l) : es.toList.map (·.key) = l.map (fun x => x.nm.val) := by
 have := congrArg (List.map Prod.fst) h.same
 simpa [List.map_map, Function.comp_def] using this
theorem Ents.at_ {es : Array MapEntry} {mc : Nat} {l : List Kp} (h : Ents es mc l) (j : Nat) (x : Kp) (hx : l[j]? = some x) : ∃ e, es.toList[j]? = some e ∧ e.key = x.nm.val ∧ e.val = x.val := by
 have h1 := congrArg (fun q => q[j]?) h.same
 simp only [List.getElem?_map, hx, Option.map_some] at h1
 cases hq : es.toList[j]? with
 | none => rw [hq] at h1; simp at h1
 | some e => rw [hq] at h1; simp only [Option.map_some, Option.some.injEq, Prod.mk.injEq] at h1; exact ⟨e, rfl, h1.1, h1.2⟩
theorem Ents.mem {es : Array MapEntry} {mc : Nat} {l : List Kp} (h : Ents es mc l) {e : MapEntry} (he : e ∈ es.toList) : ∃ x ∈ l, e.key = x.nm.val ∧ e.val = x.val := by
 have : (e.key, e.val) ∈ l.map (fun x => (x.nm.val, x.val)) := h.same ▸ List.mem_map.2 ⟨e, he, rfl⟩
 obtain ⟨x, hx, h1⟩ := List.mem_map.1 this
 simp only [Prod.mk.injEq] at h1
 exact ⟨x, hx, h1.1.symm, h1.2.symm⟩
theorem Ents.keysOk {es : Array MapEntry} {mc : Nat} {l : List Kp} (h : Ents es mc l) (hl : ∀ x ∈ l, x.nm.Ok) : KeysOk es := fun e he => by
 obtain ⟨x, hx, h1, _⟩ := h.mem he
 exact ⟨x.nm, hl x hx, h1⟩
theorem Ents.pair {es : Array MapEntry} {mc : Nat} {l : List Kp} (h : Ents es mc l) (hl : l.Pairwise (fun x y => x.nm ≠ y.nm)) : es.toList.Pairwise (fun x y => x.key ≠ y.key) := by
 have h1 : (l.map (fun x => x.nm.val)).Pairwise (· ≠ ·) := List.pairwise_map.2 (hl.imp (fun hne e => hne (nm_inj e)))
 rw [← h.keys] at h1
 exact List.pairwise_map.1 h1
theorem Ents.push {es : Array MapEntry} {mc : Nat} {l : List Kp} (h : Ents es mc l) (x : Kp) : Ents (es.push ⟨x.nm.val, x.val, mc⟩) (mc + 1) (l ++ [x]) := by
 refine ⟨by simp [h.same], fun e he => ?_, ?_⟩
 · simp at he
   rcases he with he | rfl
   · have := h.born e (by simpa using he); omega
   · exact Nat.lt_succ_self _
 · simp only [Array.toList_push, List.map_append, List.map_cons, List.map_nil]
   rw [List.nodup_append]
   refine ⟨h.nodup, by simp, ?_⟩
   intro a ha c hc e
   simp at hc
   obtain ⟨y, hy, rfl⟩ := List.mem_map.1 ha
   have := h.born y hy
   omega
theorem map_erase {α β : Type} (f : α → β) (l : List α) (i : Nat) : (l.eraseIdx i).map f = (l.map f).eraseIdx i := by
 simp [List.eraseIdx_eq_take_drop_succ, List.map_take, List.map_drop]
theorem Ents.erase {es : Array MapEntry} {mc : Nat} {l : List Kp} (h : Ents es mc l) (j : Nat) : Ents (es.eraseIdxIfInBounds j) mc (l.eraseIdx j) := by
 have he : (es.eraseIdxIfInBounds j).toList = es.toList.eraseIdx j := by simp
 refine ⟨?_, fun e h1 => ?_, ?_⟩
 · rw [he, map_erase, h.same, map_erase]
 · rw [he] at h1
   exact h.born e (List.mem_of_mem_eraseIdx h1)
 · rw [he, map_erase]
   exact h.nodup.sublist (List.eraseIdx_sublist _ _)
theorem Ents.size {es : Array MapEntry} {mc : Nat} {l : List Kp} (h : Ents es mc l) : es.size = l.length := by
 have := congrArg List.length h.keys
 simpa using this
attribute [local go_sem] run_makeMap_plain
set_option maxHeartbeats 2000000 in
theorem names_c (p : S55) (A : Option Addr) (c : Nat) (w : World) :
 Calls Try.prog 71 #[.agg (pcells p A c).toArray] w fun e w' => e = .returned (nmOf p).val ∧ Below w.heap.size w w' := by
 have HB := Lib.hid (Below.refl w.heap.size w)
 obtain ⟨f0, f1, ⟨k1, k2, k3⟩, ⟨b1, b2, b3⟩, f4, f5, f6⟩ := p
 show Calls _ _ #[.agg #[.string f0, .int .i64 f1, .int .i64 k1, .int .i64 k2, .int .i64 k3, .int .i64 b1, .int .i64 b2, .int .i64 b3, .string f4, .int .i64 f5, .slice A f6.length c]] _ _
 go_enter Try.func71, Try.ntmps71
 go_wp2
 refine bodyPost_ret (v := (nmOf ⟨f0, f1, ⟨k1, k2, k3⟩, ⟨b1, b2, b3⟩, f4, f5, f6⟩).val) ?_ rfl ⟨rfl, below_alloc (below_alloc HB.out _) _⟩
 simp [results, Try.results71, go_sem, nmOf, Nm.val, Nm.cells]
set_option maxHeartbeats 2000000 in
theorem New_some (no bytes : Int) (h : ¬ bytes < 1) (w : World) :
 Calls Try.prog 27 #[.int .i64 no, .int .i64 bytes] w fun e w' => ∃ g b, e = .returned (.pointer (some ⟨g, 0, none⟩)) ∧ Below w.heap.size w w' ∧ w.heap.size ≤ g ∧ w.heap.size ≤ b ∧ RelIs w' g b no bytes 0 0 [] := by
 have HB := Lib.hid (Below.refl w.heap.size w)
 have h1 : decide (bytes < 1) = false := decide_eq_false h
 clear h
 go_enter Try.func27, Try.ntmps27
 go_wp2
 go_ret
 have hs : (w.alloc (.map #[] 0)).heap.size = w.heap.size + 1 := by simp [World.alloc, -World.alloc_eq]
 refine ⟨w.heap.size + 1, w.heap.size, rfl, below_alloc (below_alloc HB.out _) _, Nat.le_succ _, Nat.le_refl _, ⟨?_, ⟨#[], 0, ?_, ⟨rfl, fun e he => by simp at he, by simp⟩⟩, List.Pairwise.nil, fun x hx => by simp at hx, List.Pairwise.nil, fun x hx => by simp at hx⟩⟩
 · rw [← hs]
   exact (heap_alloc _ _).1
 · rw [(heap_alloc _ _).2 _ (by rw [hs]; omega)]
   exact (heap_alloc _ _).1
set_option maxHeartbeats 2000000 in
theorem Many_c {w : World} {g b : Nat} {no bytes used clk : Int} {l : List Kp} (h : RelIs w g b no bytes used clk l) :
 Calls Try.prog 35 #[.pointer (some ⟨g, 0, none⟩)] w fun e w' => e = .returned (.int .i64 l.length) ∧ Below w.heap.size w w' := by
 have HB := Lib.hid (Below.refl w.heap.size w)
 have hr := h.relay
 obtain ⟨es, mc, hm, hE⟩ := h.map
 have hz := hE.size
 clear hE h
 have q4 : w.cell? ⟨g, 4, none⟩ = some (.map (some b)) := by simp [World.cell?, hr]
 have hl : ∀ ty, (Builtin.len_ #[80] ty #[.map (some b)]).run Try.prog w = .ok (.int .i64 l.length) w := fun ty => by
  rw [run_len_map (h := by kernel_rfl) (hb := hm), hz]
  rfl
 clear hr hm hz
 go_enter Try.func35, Try.ntmps35
 go_wp2
 go_ret
 exact ⟨rfl, HB.out⟩
theorem ck {w : World} {b : Nat} {cs : Array Value} {T : TypeId} {fr : Nat × Nat} (hb : w.heap[b]? = some (.cells cs T fr)) (j : Nat) (v : Value) (hv : cs[j]? = some v) : w.cell? ⟨b, j, none⟩ = some v := by
 simp [World.cell?, hb, hv]
theorem fz {w : World} {b : Nat} {cs : Array Value} {T : TypeId} (hb : w.heap[b]? = some (.cells cs T (0, 0))) (j : Nat) : w.frozen? ⟨b, j, none⟩ = false := by
 simp [World.frozen?, hb]
theorem cell_set {w : World} {b : Nat} {cs cs' : Array Value} {T : TypeId} (h : w.heap[b]? = some (.cells cs T (0, 0))) (j : Nat) (hj : j < cs.size) (v : Value) (he : cs.setIfInBounds j v = cs') : (w.setCell ⟨b, j, none⟩ v).heap[b]? = some (.cells cs' T (0, 0)) := by
 subst he
 have : (w.setCell ⟨b, j, none⟩ v).heap[b]? = (w.heap[b]?).map (fun | .cells c e f => .cells (c.setIfInBounds j v) e f | o => o) := by
  simp [World.setCell, Array.getElem?_modify]
  rfl
 rw [this, h]
 rfl
theorem field_sz (x : Kp) (w : World) : (Instr.field 117 x.val 1).run Try.prog w = .ok (.int .i64 x.sz) w := by
 show (Instr.field 117 (.agg #[.string x.p.f0, .int .i64 x.p.f1, .int .i64 x.p.f2.f0, .int .i64 x.p.f2.f1, .int .i64 x.p.f2.f2, .int .i64 x.p.f3.f0, .int .i64 x.p.f3.f1, .int .i64 x.p.f3.f2, .string x.p.f4, .int .i64 x.p.f5, .slice x.A x.p.f6.length x.c, .int .i64 x.sz, .int .i64 x.t]) 1).run Try.prog w = _
 kernel_rfl
theorem RelIs.used {w : World} {g b : Nat} {no bytes used clk : Int} {l : List Kp} (h : RelIs w g b no bytes used clk l) (u : Int) : RelIs (w.setCell ⟨g, 2, none⟩ (.int .i64 u)) g b no bytes u clk l ∧ Only g b w (w.setCell ⟨g, 2, none⟩ (.int .i64 u)) := by
 have hO : Only g b w (w.setCell ⟨g, 2, none⟩ (.int .i64 u)) := (Only.refl g b w).setCell (.inl rfl) _
 obtain ⟨es, mc, hm, hE⟩ := h.map
 exact ⟨⟨cell_set h.relay 2 (by simp) _ rfl, ⟨es, mc, (Below.heap_setCell w ⟨g, 2, none⟩ _ b (fun e => h.gb e.symm)).trans hm, hE⟩, h.apart, fun x hx => (h.good x hx).only hO, h.sorted, h.times⟩, hO⟩
theorem RelIs.clock {w : World} {g b : Nat} {no bytes used clk : Int} {l : List Kp} (h : RelIs w g b no bytes used clk l) (u : Int) (hu : clk ≤ u) : RelIs (w.setCell ⟨g, 3, none⟩ (.int .i64 u)) g b no bytes used u l ∧ Only g b w (w.setCell ⟨g, 3, none⟩ (.int .i64 u)) := by
 have hO : Only g b w (w.setCell ⟨g, 3, none⟩ (.int .i64 u)) := (Only.refl g b w).setCell (.inl rfl) _
 obtain ⟨es, mc, hm, hE⟩ := h.map
 exact ⟨⟨cell_set h.relay 3 (by simp) _ rfl, ⟨es, mc, (Below.heap_setCell w ⟨g, 3, none⟩ _ b (fun e => h.gb e.symm)).trans hm, hE⟩, h.apart, fun x hx => (h.good x hx).only hO, h.sorted, fun x hx => ⟨(h.times x hx).1, Int.le_trans (h.times x hx).2 hu⟩⟩, hO⟩
theorem RelIs.drew {w : World} {g b : Nat} {no bytes used clk : Int} {l : List Kp} (h : RelIs w g b no bytes used clk l) : RelIs w.drew g b no bytes used clk l := h.below (below_drew (Below.refl _ _))
theorem RelIs.erase {w : World} {g b : Nat} {no bytes used clk : Int} {l : List Kp} (h : RelIs w g b no bytes used clk l) (j : Nat) (x : Kp) (hx : l[j]? = some x) :
 ∃ w', (∀ ty, (Builtin.delete_ #[80, 120] ty #[.map (some b), x.nm.val]).run Try.prog w = .ok (.tuple #[]) w') ∧ RelIs w' g b no bytes used clk (l.eraseIdx j) ∧ Only g b w w' := by
 obtain ⟨es, mc, hm, hE⟩ := h.map
 obtain ⟨e, he, hk, hv⟩ := hE.at_ j x hx
 have hxm : x ∈ l := List.mem_of_getElem? hx
 refine ⟨_, fun ty => run_delete_hit hm (hE.keysOk (fun y hy => (h.good y hy).ok)) x.nm (h.good x hxm).ok j e he hk (hE.pair h.apart) ty, ?_, (Only.refl g b w).setBlock hm _⟩
 have hO : Only g b w (setBlock w b (.map (es.eraseIdxIfInBounds j) mc)) := (Only.refl g b w).setBlock hm _
 exact ⟨(heap_setBlock_other hm _ h.gb).trans h.relay, ⟨_, mc, heap_setBlock_same hm _, hE.erase j⟩, h.apart.sublist (List.eraseIdx_sublist _ _), fun y hy => (h.good y (List.mem_of_mem_eraseIdx hy)).only hO, h.sorted.sublist (List.eraseIdx_sublist _ _), fun y hy => h.times y (List.mem_of_mem_eraseIdx hy)⟩
theorem RelIs.look {w : World} {g b : Nat} {no bytes used clk : Int} {l : List Kp} (h : RelIs w g b no bytes used clk l) (j : Nat) (x : Kp) (hx : l[j]? = some x) :
 (Instr.lookup 80 (.map (some b)) x.nm.val false).run Try.prog w = .ok x.val w := by
 obtain ⟨es, mc, hm, hE⟩ := h.map
 obtain ⟨e, he, hk, hv⟩ := hE.at_ j x hx
 have hxm : x ∈ l := List.mem_of_getElem? hx
 rw [run_lookup_hit hm (hE.keysOk (fun y hy => (h.good y hy).ok)) x.nm (h.good x hxm).ok j e he hk (hE.pair h.apart) false, hv]
 rfl
set_option maxHeartbeats 4000000 in
set_option maxRecDepth 100000 in
theorem drop_c {w : World} {g b : Nat} {no bytes used clk : Int} {l : List Kp} (h : RelIs w g b no bytes used clk l) (j : Nat) (x : Kp) (hx : l[j]? = some x) (u : Int) (hu : wrap64 (used - x.sz) = u) :
 Calls Try.prog 72 #[.pointer (some ⟨g, 0, none⟩), x.nm.val] w fun e w' => e = .returned (.tuple #[]) ∧ RelIs w' g b no bytes u clk (l.eraseIdx j) ∧ Only g b w w' := by
 obtain ⟨⟨f0, f1, ⟨k1, k2, k3⟩, ⟨b1, b2, b3⟩, f4, f5, f6⟩, A, c, sz, t⟩ := x
 simp only at hu
 show Calls _ _ #[_, .agg #[.string f0, .int .i64 f1, .int .i64 k1, .int .i64 k2, .int .i64 k3, .int .i64 b1, .int .i64 b2, .int .i64 b3]] _ _
 have hz : (w.alloc (.cells #[.string f0, .int .i64 f1, .int .i64 k1, .int .i64 k2, .int .i64 k3, .int .i64 b1, .int .i64 b2, .int .i64 b3] 120 (0, 0))).heap[w.heap.size]? = some (.cells #[.string f0, .int .i64 f1, .int .i64 k1, .int .i64 k2, .int .i64 k3, .int .i64 b1, .int .i64 b2, .int .i64 b3] 120 (0, 0)) := (heap_alloc _ _).1
 have hw2 : RelIs (w.alloc (.cells #[.string f0, .int .i64 f1, .int .i64 k1, .int .i64 k2, .int .i64 k3, .int .i64 b1, .int .i64 b2, .int .i64 b3] 120 (0, 0))) g b no bytes used clk l := h.below (below_alloc (Below.refl _ _) _)
 have ho2 : Only g b w (w.alloc (.cells #[.string f0, .int .i64 f1, .int .i64 k1, .int .i64 k2, .int .i64 k3, .int .i64 b1, .int .i64 b2, .int .i64 b3] 120 (0, 0))) := Only.of_below (below_alloc (Below.refl _ _) _)
 have hng : w.heap.size ≠ g := fun e => by have := blk_lt h.relay; omega
 have HW := Lib.hid h
 have HX := Lib.hid hx
 have HN := Lib.hid hng
 clear h hx hng
 go_enter Try.func72, Try.ntmps72
 go_wp2
 generalize w.alloc (.cells #[.string f0, .int .i64 f1, .int .i64 k1, .int .i64 k2, .int .i64 k3, .int .i64 b1, .int .i64 b2, .int .i64 b3] 120 (0, 0)) = w2 at hz hw2 ho2 ⊢
 have d2 := hw2.drew
 have hzd : w2.drew.heap[w.heap.size]? = _ := hz
 have q0 : w2.drew.cell? ⟨g, 2, none⟩ = some (.int .i64 used) := ck d2.relay 2 _ rfl
 have q1 : w2.drew.cell? ⟨g, 4, none⟩ = some (.map (some b)) := ck d2.relay 4 _ rfl
 have q2 : w2.drew.cell? ⟨w.heap.size, 0, none⟩ = some (.string f0) := ck hzd 0 _ rfl
 have q3 : w2.drew.cell? ⟨w.heap.size, 1, none⟩ = some (.int .i64 f1) := ck hzd 1 _ rfl
 have q4 : w2.drew.cell? ⟨w.heap.size, 2, none⟩ = some (.int .i64 k1) := ck hzd 2 _ rfl
 have q5 : w2.drew.cell? ⟨w.heap.size, 3, none⟩ = some (.int .i64 k2) := ck hzd 3 _ rfl
 have q6 : w2.drew.cell? ⟨w.heap.size, 4, none⟩ = some (.int .i64 k3) := ck hzd 4 _ rfl
 have q7 : w2.drew.cell? ⟨w.heap.size, 5, none⟩ = some (.int .i64 b1) := ck hzd 5 _ rfl
 have q8 : w2.drew.cell? ⟨w.heap.size, 6, none⟩ = some (.int .i64 b2) := ck hzd 6 _ rfl
 have q9 : w2.drew.cell? ⟨w.heap.size, 7, none⟩ = some (.int .i64 b3) := ck hzd 7 _ rfl
 have q10 : (Instr.lookup 80 (.map (some b)) (.agg #[.string f0, .int .i64 f1, .int .i64 k1, .int .i64 k2, .int .i64 k3, .int .i64 b1, .int .i64 b2, .int .i64 b3]) false).run Try.prog w2.drew = .ok (.agg #[.string f0, .int .i64 f1, .int .i64 k1, .int .i64 k2, .int .i64 k3, .int .i64 b1, .int .i64 b2, .int .i64 b3, .string f4, .int .i64 f5, .slice A f6.length c, .int .i64 sz, .int .i64 t]) w2.drew := d2.look j _ HX.out
 have hfz := fz d2.relay 2
 have hfs := field_sz ⟨⟨f0, f1, ⟨k1, k2, k3⟩, ⟨b1, b2, b3⟩, f4, f5, f6⟩, A, c, sz, t⟩
 simp only [Kp.val, Kp.cells] at hfs
 have HO2 := Lib.hid (show Only g b w w2.drew from ho2.drewN 1)
 have D2 := Lib.hid d2
 have HZD := Lib.hid hzd
 clear hz hw2 ho2 d2 hzd
 refine start_ (n := 15) (S := fun w' => w'.cell? ⟨g, 2, none⟩ = some (.int .i64 used) ∧ w'.cell? ⟨g, 4, none⟩ = some (.map (some b)) ∧ w'.cell? ⟨w.heap.size, 0, none⟩ = some (.string f0) ∧ w'.cell? ⟨w.heap.size, 1, none⟩ = some (.int .i64 f1) ∧ w'.cell? ⟨w.heap.size, 2, none⟩ = some (.int .i64 k1) ∧ w'.cell? ⟨w.heap.size, 3, none⟩ = some (.int .i64 k2) ∧ w'.cell? ⟨w.heap.size, 4, none⟩ = some (.int .i64 k3) ∧ w'.cell? ⟨w.heap.size, 5, none⟩ = some (.int .i64 b1) ∧ w'.cell? ⟨w.heap.size, 6, none⟩ = some (.int .i64 b2) ∧ w'.cell? ⟨w.heap.size, 7, none⟩ = some (.int .i64 b3) ∧ (Instr.lookup 80 (.map (some b)) (.agg #[.string f0, .int .i64 f1, .int .i64 k1, .int .i64 k2, .int .i64 k3, .int .i64 b1, .int .i64 b2, .int .i64 b3]) false).run Try.prog w' = .ok (.agg #[.string f0, .int .i64 f1, .int .i64 k1, .int .i64 k2, .int .i64 k3, .int .i64 b1, .int .i64 b2, .int .i64 b3, .string f4, .int .i64 f5, .slice A f6.length c, .int .i64 sz, .int .i64 t]) w') (ds := [14]) #[false, false, false, false, false, false, false, false, false, false, false, false, false, false, false] (by kernel_rfl) rfl rfl ⟨q0, q1, q2, q3, q4, q5, q6, q7, q8, q9, q10⟩ (fun hHeld => ?_)
 generalize w2.drew = wd at HO2 D2 HZD q0 q1 q2 q3 q4 q5 q6 q7 q8 q9 q10 hfz hHeld ⊢
 refine pA 0 (some 4) rfl rfl zaa1 zaa0 ?_
 refine pA 1 (some 5) rfl rfl zaa1 zaa0 ?_
 refine pA 2 (some 6) rfl rfl zaa1 zaa0 ?_
 refine pA 4 (some 8) rfl rfl zaa1 zaa0 ?_
 refine pA 5 (some 9) rfl rfl zaa1 zaa0 ?_
 refine pA 6 (some 10) rfl rfl zaa1 zaa0 ?_
 refine tA 3 (some 7) rfl rfl zaa2 hHeld zaa0 ?_
 refine tA 7 (some 11) rfl rfl zaa2 hHeld zaa0 ?_
 refine tA 8 (some 12) rfl rfl zaa2 hHeld zaa0 ?_
 refine tA 9 (some 13) rfl rfl zaa2 hHeld zaa0 ?_
 refine pA 10 (some 14) rfl rfl zaa1 zaa0 ?_
 refine pA 11 (some 15) rfl rfl zaa1 zaa0 ?_
 refine pA 12 (some 16) rfl rfl zaa1 zaa0 ?_
 refine pA 13 (some 17) rfl rfl zaa1 zaa0 ?_
 refine last_ (i := 14) (N := none) #[true, true, true, true, true, true, true, true, true, true, true, true, true, true, true] rfl rfl (by kernel_rfl) (by decide) (fun K hK => ?_)
 refine skip_ (w1 := ?_) (by rfl) rfl ?_ ?_
 rotate_left
 · go_simp
   rfl
 refine hK.out _ _ ?_
 clear hK K
 refine done_ (by kernel_rfl) ?_
 go_wp2
 clear q0 q1 q2 q3 q4 q5 q6 q7 q8 q9 q10 hfs hfz
 obtain ⟨d4, o4⟩ := D2.out.used u
 have hz4 := (Below.heap_setCell wd ⟨g, 2, none⟩ (.int .i64 u) w.heap.size HN.out).trans HZD.out
 have o4' := HO2.out.trans o4
 clear o4 HO2 D2 HZD
 generalize wd.setCell ⟨g, 2, none⟩ (.int .i64 u) = w4 at d4 hz4 o4' ⊢
 have d5 := d4.drew
 have hz5 : w4.drew.heap[w.heap.size]? = _ := hz4
 have o5 : Only g b w w4.drew := o4'.drewN 1
 obtain ⟨w6, hdel, d6, o6⟩ := d5.erase j _ HX.out
 replace hdel : ∀ ty, (Builtin.delete_ #[80, 120] ty #[.map (some b), .agg #[.string f0, .int .i64 f1, .int .i64 k1, .int .i64 k2, .int .i64 k3, .int .i64 b1, .int .i64 b2, .int .i64 b3]]).run Try.prog w4.drew = .ok (.tuple #[]) w6 := hdel
 have r0 : w4.drew.cell? ⟨g, 4, none⟩ = some (.map (some b)) := ck d5.relay 4 _ rfl
 have r1 : w4.drew.cell? ⟨w.heap.size, 0, none⟩ = some (.string f0) := ck hz5 0 _ rfl
 have r2 : w4.drew.cell? ⟨w.heap.size, 1, none⟩ = some (.int .i64 f1) := ck hz5 1 _ rfl
 have r3 : w4.drew.cell? ⟨w.heap.size, 2, none⟩ = some (.int .i64 k1) := ck hz5 2 _ rfl
 have r4 : w4.drew.cell? ⟨w.heap.size, 3, none⟩ = some (.int .i64 k2) := ck hz5 3 _ rfl
 have r5 : w4.drew.cell? ⟨w.heap.size, 4, none⟩ = some (.int .i64 k3) := ck hz5 4 _ rfl
 have r6 : w4.drew.cell? ⟨w.heap.size, 5, none⟩ = some (.int .i64 b1) := ck hz5 5 _ rfl
 have r7 : w4.drew.cell? ⟨w.heap.size, 6, none⟩ = some (.int .i64 b2) := ck hz5 6 _ rfl
 have r8 : w4.drew.cell? ⟨w.heap.size, 7, none⟩ = some (.int .i64 b3) := ck hz5 7 _ rfl
 have r9 : (∀ ty, (Builtin.delete_ #[80, 120] ty #[.map (some b), .agg #[.string f0, .int .i64 f1, .int .i64 k1, .int .i64 k2, .int .i64 k3, .int .i64 b1, .int .i64 b2, .int .i64 b3]]).run Try.prog w4.drew = .ok (.tuple #[]) w6) := hdel
 have D6 := Lib.hid d6
 have O6 := Lib.hid (o5.trans o6)
 clear d4 hz4 o4' d5 hz5 o5 d6 o6 hdel
 refine start_ (n := 6) (S := fun w' => w'.cell? ⟨g, 4, none⟩ = some (.map (some b)) ∧ w'.cell? ⟨w.heap.size, 0, none⟩ = some (.string f0) ∧ w'.cell? ⟨w.heap.size, 1, none⟩ = some (.int .i64 f1) ∧ w'.cell? ⟨w.heap.size, 2, none⟩ = some (.int .i64 k1) ∧ w'.cell? ⟨w.heap.size, 3, none⟩ = some (.int .i64 k2) ∧ w'.cell? ⟨w.heap.size, 4, none⟩ = some (.int .i64 k3) ∧ w'.cell? ⟨w.heap.size, 5, none⟩ = some (.int .i64 b1) ∧ w'.cell? ⟨w.heap.size, 6, none⟩ = some (.int .i64 b2) ∧ w'.cell? ⟨w.heap.size, 7, none⟩ = some (.int .i64 b3) ∧ (∀ ty, (Builtin.delete_ #[80, 120] ty #[.map (some b), .agg #[.string f0, .int .i64 f1, .int .i64 k1, .int .i64 k2, .int .i64 k3, .int .i64 b1, .int .i64 b2, .int .i64 b3]]).run Try.prog w' = .ok (.tuple #[]) w6)) (ds := [5]) #[false, false, false, false, false, false] (by kernel_rfl) rfl rfl ⟨r0, r1, r2, r3, r4, r5, r6, r7, r8, r9⟩ (fun hHeld => ?_)
 generalize w4.drew = we at r0 r1 r2 r3 r4 r5 r6 r7 r8 r9 hHeld ⊢
 refine pA 0 (some 18) rfl rfl zaa1 zaa0 ?_
 refine pA 1 (some 19) rfl rfl zaa1 zaa0 ?_
 refine pA 2 (some 20) rfl rfl zaa1 zaa0 ?_
 refine tA 3 (some 21) rfl rfl (by rintro w' ⟨s0, s1, s2, s3, s4, s5, s6, s7, s8, s9⟩; go_simp; with_reducible rfl) hHeld zaa0 ?_
 refine tA 4 (some 22) rfl rfl (by rintro w' ⟨s0, s1, s2, s3, s4, s5, s6, s7, s8, s9⟩; go_simp; with_reducible rfl) hHeld zaa0 ?_
 refine last_ (i := 5) (N := none) #[true, true, true, true, true, true] rfl rfl (by kernel_rfl) (by decide) (fun K hK => ?_)
 refine value_ (w1 := ?_) (v := ?_) (by rfl) rfl ?_ ?_
 rotate_left 2
 · go_simp
   constructor
   · rfl
   · rfl
 refine hK.out _ _ ?_
 clear hK K
 refine done_ (by kernel_rfl) ?_
 first | go_end0 | ((try simp only [Exit.inBlock, Exit.then]); refine bodyPost_ret (results_none rfl _ _ _) rfl ?_)
 exact ⟨rfl, D6.out, O6.out⟩
def kKp : Kd Kp where
 sz := 13
 E := []
 K := fun _ x cs => cs = x.cells
 M := fun _ _ _ x cs => cs = x.cells
 K_len := by rintro w x cs rfl; rfl
 K_one := by
  rintro w x cs rfl u hu
  simp [Kp.cells] at hu
  rcases hu with rfl | rfl | rfl | rfl | rfl | rfl | rfl | rfl | rfl | rfl | rfl | rfl | rfl <;> rfl
 K_below := fun _ h => h
 K_of_M := fun h => h
 M_mono := fun _ h => h
 M_bound := fun h => h
 M_move := fun _ h => h
 M_lower := fun _ h => h
def Zs (es : Array MapEntry) (l : List Kp) : List (MapEntry × Kp) := es.toList.zip l
def leftZ (Z : List (MapEntry × Kp)) (seen : Array Nat) : List (MapEntry × Kp) := Z.filter (fun z => !seen.contains z.1.born)
theorem Ents.fst {es : Array MapEntry} {mc : Nat} {l : List Kp} (h : Ents es mc l) : (Zs es l).map Prod.fst = es.toList := by
 have := h.size
 exact List.map_fst_zip (by simp; omega)
theorem Ents.snd {es : Array MapEntry} {mc : Nat} {l : List Kp} (h : Ents es mc l) : (Zs es l).map Prod.snd = l := by
 have := h.size
 exact List.map_snd_zip (by simp; omega)
theorem zip_same {α β γ : Type} (f : α → γ) (g : β → γ) : ∀ (a : List α) (b : List β), a.map f = b.map g → ∀ z ∈ a.zip b, f z.1 = g z.2
 | [], b, _, z, hz => by simp at hz
 | x :: a, [], h, z, hz => by simp at h
 | x :: a, y :: b, h, z, hz => by
   simp only [List.map_cons, List.cons.injEq] at h
   simp only [List.zip_cons_cons, List.mem_cons] at hz
   rcases hz with rfl | hz
   · exact h.1
   · exact zip_same f g a b h.2 z hz
theorem Ents.zs {es : Array MapEntry} {mc : Nat} {l : List Kp} (h : Ents es mc l) (z : MapEntry × Kp) (hz : z ∈ Zs es l) : z.1.key = z.2.nm.val ∧ z.1.val = z.2.val := by
 have := zip_same _ _ _ _ h.same z hz
 simpa using this
theorem left_fst (es : Array MapEntry) (l : List Kp) (mc : Nat) (h : Ents es mc l) (seen : Array Nat) : (leftOf es seen).toList = (leftZ (Zs es l) seen).map Prod.fst := by
 unfold leftOf leftZ
 rw [Array.toList_filter, ← h.fst, List.filter_map]
 rfl
theorem perm_take {α : Type} (f : α → Nat) : ∀ (L : List α), (L.map f).Nodup → ∀ z ∈ L, L.Perm (z :: L.filter (fun y => f y != f z))
 | [], _, z, hz => by simp at hz
 | x :: L, hn, z, hz => by
   simp only [List.map_cons, List.nodup_cons] at hn
   rcases List.mem_cons.1 hz with rfl | hz'
   · have : (z :: L).filter (fun y => f y != f z) = L := by
      rw [List.filter_cons_of_neg (by simp)]
      exact List.filter_eq_self.2 (fun y hy => by simp; exact fun e => hn.1 (e ▸ List.mem_map_of_mem hy))
     rw [this]
   · have hxz : f x ≠ f z := fun e => hn.1 (e ▸ List.mem_map_of_mem hz')
     rw [List.filter_cons_of_pos (by simpa using hxz)]
     exact ((perm_take f L hn.2 z hz').cons x).trans (List.Perm.swap _ _ _)
theorem left_step {es : Array MapEntry} {mc : Nat} {l : List Kp} (h : Ents es mc l) (seen : Array Nat) (e : MapEntry) (he : e ∈ (leftOf es seen).toList) :
 ∃ x ∈ l, e.key = x.nm.val ∧ e.val = x.val ∧ (leftZ (Zs es l) seen).Perm ((e, x) :: leftZ (Zs es l) (seen.push e.born)) := by
 rw [left_fst es l mc h] at he
 obtain ⟨⟨e1, x⟩, hz, rfl⟩ := List.mem_map.1 he
 have hzZ : (e1, x) ∈ Zs es l := (List.mem_filter.1 hz).1
 obtain ⟨h1, h2⟩ := h.zs _ hzZ
 have hnd : ((Zs es l).map (fun z => z.1.born)).Nodup := by
  have := h.nodup
  rw [← h.fst, List.map_map] at this
  exact this
 have hnd2 : ((leftZ (Zs es l) seen).map (fun z => z.1.born)).Nodup := hnd.sublist ((List.filter_sublist).map _)
 refine ⟨x, (by have := List.mem_map_of_mem (f := Prod.snd) hzZ; rw [h.snd] at this; exact this), h1, h2, ?_⟩
 have hp := perm_take (fun z : MapEntry × Kp => z.1.born) _ hnd2 (e1, x) hz
 have hf : (leftZ (Zs es l) seen).filter (fun y => y.1.born != e1.born) = leftZ (Zs es l) (seen.push e1.born) := by
  unfold leftZ
  rw [List.filter_filter]
  refine List.filter_congr (fun z _ => ?_)
  simp only [Array.contains_push]
  cases (seen.contains z.1.born) <;> simp [bne, Bool.beq_comm]
 rw [← hf]
 exact hp
theorem left_none {es : Array MapEntry} {mc : Nat} {l : List Kp} (h : Ents es mc l) (seen : Array Nat) (h0 : (leftOf es seen).size = 0) : leftZ (Zs es l) seen = [] := by
 have := left_fst es l mc h seen
 have hn : (leftOf es seen).toList = [] := by rw [← List.length_eq_zero_iff]; simpa using h0
 rw [hn] at this
 simpa using this.symm
section
variable {P : Program} (w : World) {ops : Array Oper} {rest : List Oper} {o : Oper} {a : Act} {Q : Exit → Act → World → Prop}
theorem wpl_range (hg : o.guard = none) (m : Operand) (t : TypeId) (hop : o.op = Op.range t m) (k e : TypeId) (ht : P.underlying t = some (.map k e)) (b : Nat) (es : Array MapEntry) (clock : Nat) (hb : w.heap[b]? = some (.map es clock))
 (hm : a.eval m = .map (some b)) (hK : wpList P ops Q rest (a.put o.dst (.pointer (some ⟨w.heap.size, 0, none⟩))) (w.alloc (.mapIter (some b) clock #[] clock))) : wpList P ops Q (o :: rest) a w := by
 refine wpList_plain hg fun K' hK' => ?_
 unfold Oper.wp
 simp [execOp, hop, hm, run_range_map w t k e b es clock ht hb, Result.andThen, -World.alloc_eq]
 exact hK' _ _ hK
theorem wpl_next (hg : o.guard = none) (it : Operand) (hop : o.op = Op.next it false) (r b since c0 : Nat) (seen : Array Nat) (es : Array MapEntry) (clock : Nat) (hit : a.eval it = .pointer (some ⟨r, 0, none⟩))
 (hr : w.heap[r]? = some (.mapIter (some b) since seen c0)) (hb : w.heap[b]? = some (.map es clock)) (hold : ∀ x ∈ es.toList, x.born < since) (hsc : since ≤ c0)
 (hDone : (leftOf es seen).size = 0 → wpList P ops Q rest (a.put o.dst (.tuple #[.bool false])) w)
 (hMore : ∀ e ∈ (leftOf es seen).toList, ∀ w1 : World, (w1 = w ∨ w1 = w.drew) → wpList P ops Q rest (a.put o.dst (.tuple #[.bool true, e.key, e.val])) (setBlock w1 r (.mapIter (some b) since (seen.push e.born) clock))) :
 wpList P ops Q (o :: rest) a w := by
 refine wpList_plain hg fun K' hK' => ?_
 unfold Oper.wp
 rcases run_next_at (P := P) w o.type r b since c0 seen es clock hr hb hold hsc with ⟨h0, hrun⟩ | ⟨e, he, w1, hw1, hrun⟩
 · simp [execOp, hop, hit, hrun, Result.andThen]
   exact hK' _ _ (hDone h0)
 · simp [execOp, hop, hit, hrun, Result.andThen]
   exact hK' _ _ (hMore e he w1 hw1)
end
end Go.Proofs.Ythokkeljfdfppaa.Rl

/- The shelf's contract for slices.SortFunc, laid over this program's numbers. -/
set_option linter.unusedVariables false
namespace Go.Proofs.Ythokkeljfdfppaa.Srt
open Go.Shelf Go.RowKit
def nums : Ren := ⟨fun n => match n with | 6 => 102 | 14 => 117 | 15 => 113 | 20 => 131 | 21 => 132 | 22 => 133 | 23 => 134 | 24 => 135 | 25 => 136 | 26 => 137 | 27 => 138 | 28 => 129 | 29 => 108 | 46 => 145 | 47 => 140 | 48 => 141 | 49 => 146 | 50 => 147 | 57 => 149 | _ => 0, fun n => match n with | 0 => 0 | 3 => 3 | 4 => 4 | 5 => 5 | 9 => 9 | 22 => 123 | 24 => 117 | 25 => 166 | 39 => 115 | 45 => 190 | 46 => 191 | 50 => 195 | 53 => 198 | 55 => 154 | 66 => 205 | 70 => 209 | 76 => 215 | 77 => 216 | _ => 0, fun n => n⟩
set_option maxRecDepth 100000 in
theorem lays : SlLaysF0.n6 Try.prog nums := {
 mixed := by kernel_rfl,
 f6 := ⟨"slices.SortFunc[[]abugida/relay.kept,abugida/relay.kept]", by kernel_rfl, by kernel_rfl⟩,
 f14 := ⟨"slices.pdqsortCmpFunc[abugida/relay.kept]", by kernel_rfl, by kernel_rfl⟩,
 f15 := by kernel_rfl,
 f20 := ⟨"slices.insertionSortCmpFunc[abugida/relay.kept]", by kernel_rfl, by kernel_rfl⟩,
 f21 := ⟨"slices.heapSortCmpFunc[abugida/relay.kept]", by kernel_rfl, by kernel_rfl⟩,
 f22 := ⟨"slices.breakPatternsCmpFunc[abugida/relay.kept]", by kernel_rfl, by kernel_rfl⟩,
 f23 := ⟨"slices.choosePivotCmpFunc[abugida/relay.kept]", by kernel_rfl, by kernel_rfl⟩,
 f24 := ⟨"slices.reverseRangeCmpFunc[abugida/relay.kept]", by kernel_rfl, by kernel_rfl⟩,
 f25 := ⟨"slices.partialInsertionSortCmpFunc[abugida/relay.kept]", by kernel_rfl, by kernel_rfl⟩,
 f26 := ⟨"slices.partitionEqualCmpFunc[abugida/relay.kept]", by kernel_rfl, by kernel_rfl⟩,
 f27 := ⟨"slices.partitionCmpFunc[abugida/relay.kept]", by kernel_rfl, by kernel_rfl⟩,
 f28 := by kernel_rfl,
 f29 := by kernel_rfl,
 f46 := ⟨"slices.siftDownCmpFunc[abugida/relay.kept]", by kernel_rfl, by kernel_rfl⟩,
 f47 := by kernel_rfl,
 f48 := by kernel_rfl,
 f49 := ⟨"slices.medianAdjacentCmpFunc[abugida/relay.kept]", by kernel_rfl, by kernel_rfl⟩,
 f50 := ⟨"slices.medianCmpFunc[abugida/relay.kept]", by kernel_rfl, by kernel_rfl⟩,
 f57 := ⟨"slices.order2CmpFunc[abugida/relay.kept]", by kernel_rfl, by kernel_rfl⟩,
 t0 := by kernel_rfl,
 a0 := fun _ => by kernel_rfl,
 z0 := fun _ => by kernel_rfl,
 v0 := fun _ => by kernel_rfl,
 t3 := by kernel_rfl,
 a3 := fun _ => by kernel_rfl,
 z3 := fun _ => by kernel_rfl,
 v3 := fun _ => by kernel_rfl,
 t4 := by kernel_rfl,
 a4 := fun _ => by kernel_rfl,
 z4 := fun _ => by kernel_rfl,
 v4 := fun _ => by kernel_rfl,
 t5 := by kernel_rfl,
 a5 := fun _ => by kernel_rfl,
 z5 := fun _ => by kernel_rfl,
 v5 := fun _ => by kernel_rfl,
 t9 := by kernel_rfl,
 a9 := fun _ => by kernel_rfl,
 z9 := fun _ => by kernel_rfl,
 v9 := fun _ => by kernel_rfl,
 t22 := by kernel_rfl,
 a22 := fun _ => by kernel_rfl,
 z22 := fun _ => by kernel_rfl,
 v22 := fun _ => by kernel_rfl,
 t25 := by kernel_rfl,
 a25 := fun _ => by kernel_rfl,
 z25 := fun _ => by kernel_rfl,
 v25 := fun _ => by kernel_rfl,
 t39 := by kernel_rfl,
 a39 := fun _ => by kernel_rfl,
 z39 := fun _ => by kernel_rfl,
 v39 := fun _ => by kernel_rfl,
 t45 := by kernel_rfl,
 a45 := fun _ => by kernel_rfl,
 z45 := fun _ => by kernel_rfl,
 v45 := fun _ => by kernel_rfl,
 t46 := by kernel_rfl,
 a46 := fun _ => by kernel_rfl,
 z46 := fun _ => by kernel_rfl,
 v46 := fun _ => by kernel_rfl,
 t50 := by kernel_rfl,
 a50 := fun _ => by kernel_rfl,
 z50 := fun _ => by kernel_rfl,
 v50 := fun _ => by kernel_rfl,
 t53 := by kernel_rfl,
 a53 := fun _ => by kernel_rfl,
 z53 := fun _ => by kernel_rfl,
 v53 := fun _ => by kernel_rfl,
 t55 := by kernel_rfl,
 a55 := fun _ => by kernel_rfl,
 z55 := fun _ => by kernel_rfl,
 v55 := fun _ => by kernel_rfl,
 t66 := by kernel_rfl,
 a66 := fun _ => by kernel_rfl,
 z66 := fun _ => by kernel_rfl,
 v66 := fun _ => by kernel_rfl,
 t70 := by kernel_rfl,
 a70 := fun _ => by kernel_rfl,
 z70 := fun _ => by kernel_rfl,
 v70 := fun _ => by kernel_rfl,
 t76 := by kernel_rfl,
 a76 := fun _ => by kernel_rfl,
 z76 := fun _ => by kernel_rfl,
 v76 := fun _ => by kernel_rfl,
 t77 := by kernel_rfl,
 a77 := fun _ => by kernel_rfl,
 z77 := fun _ => by kernel_rfl,
 v77 := fun _ => by kernel_rfl }
end Go.Proofs.Ythokkeljfdfppaa.Srt


/- The relay: the sort of what is kept. -/
set_option linter.unusedVariables false
set_option linter.unusedSimpArgs false
namespace Go.Proofs.Ythokkeljfdfppaa.Rl
open Go.RowKit Go.Proofs.YthokkeljfdfppaaW.PrintWords Go.Proofs.YthokkeljfdfppaaW.PrintLast Go.Proofs.YthokkeljfdfppaaW.PrintMore Go.Proofs.Ythokkeljfdfppaa.Pb Go.Proofs.Ythokkeljfdfppaa.Gw Go.WideMaps Go.WideElems
open Go.Shelf Go.Sort
set_option maxHeartbeats 2000000 in
theorem cmp_c (x y : Kp) (d : Int) (h : wrap64 (x.t - y.t) = d) (W : World) :
 Calls Try.prog 103 #[.agg x.cells.toArray, .agg y.cells.toArray] W fun e w' => e = .returned (.int .i64 d) ∧ ∃ q os', w' = grow (W.drewN q) os' := by
 obtain ⟨⟨f0, f1, ⟨k1, k2, k3⟩, ⟨b1, b2, b3⟩, f4, f5, f6⟩, A, c, sz, t⟩ := x
 obtain ⟨⟨g0, g1, ⟨l1, l2, l3⟩, ⟨d1, d2, d3⟩, g4, g5, g6⟩, A', c', sz', t'⟩ := y
 simp only at h
 subst h
 show Calls _ _ #[.agg #[.string f0, .int .i64 f1, .int .i64 k1, .int .i64 k2, .int .i64 k3, .int .i64 b1, .int .i64 b2, .int .i64 b3, .string f4, .int .i64 f5, .slice A f6.length c, .int .i64 sz, .int .i64 t], .agg #[.string g0, .int .i64 g1, .int .i64 l1, .int .i64 l2, .int .i64 l3, .int .i64 d1, .int .i64 d2, .int .i64 d3, .string g4, .int .i64 g5, .slice A' g6.length c', .int .i64 sz', .int .i64 t']] _ _
 go_enter Try.func103, Try.ntmps103
 go_wp2
 go_ret
 exact ⟨rfl, 0, _, by rw [alloc_eq_grow, alloc_eq_grow, grow_grow]; rfl⟩
structure Kt where
 x : Kp
 ok : 0 < x.t ∧ x.t ≤ 4611686018427387904
def dK : Kp := ⟨z55, none, 0, 0, 1⟩
instance : Inhabited Kt := ⟨⟨dK, by decide⟩⟩
def enc (x : Kt) : List Value := x.x.cells
def cf (x y : Kt) : Int := x.x.t - y.x.t
theorem swo : SWO (ltOf cf) where
 irrefl x := by simp [ltOf, cf]
 trans x y z h1 h2 := by
  have a1 := of_decide_eq_true (show decide (x.x.t - y.x.t < 0) = true from h1)
  have a2 := of_decide_eq_true (show decide (y.x.t - z.x.t < 0) = true from h2)
  exact decide_eq_true (show x.x.t - z.x.t < 0 by omega)
 ntrans x y z h1 h2 := by
  have a1 := of_decide_eq_false (show decide (x.x.t - y.x.t < 0) = false from h1)
  have a2 := of_decide_eq_false (show decide (y.x.t - z.x.t < 0) = false from h2)
  exact decide_eq_false (show ¬ x.x.t - z.x.t < 0 by omega)
theorem cells13 (x : Kp) : x.cells.length = 13 := rfl
def cellAt (l : List Kp) (j : Nat) : Value := (l.getD (j / 13) dK).cells[j % 13]!
theorem reps_get {l : List Kp} {inner : List Value} (h : Reps (fun (x : Kp) cs => cs = x.cells) 13 l inner) (j : Nat) (hj : j < l.length * 13) : inner[j]? = some (cellAt l j) := by
 have hi : j / 13 < l.length := by omega
 have h1 := h.2 (j / 13) l[j / 13] (List.getElem?_eq_getElem hi)
 have h2 : (List.take 13 (List.drop (j / 13 * 13) inner))[j % 13]? = inner[j]? := by
  rw [List.getElem?_take, if_pos (Nat.mod_lt _ (by omega)), List.getElem?_drop]
  congr 1
  omega
 rw [← h2, h1]
 have hm : j % 13 < l[j / 13].cells.length := Nat.mod_lt _ (by omega)
 simp [cellAt, List.getD_eq_getElem?_getD, hi, hm]
theorem reps_of {l : List Kp} {inner : List Value} (hl : inner.length = l.length * 13) (h : ∀ j, j < l.length * 13 → inner[j]? = some (cellAt l j)) : Reps (fun (x : Kp) cs => cs = x.cells) 13 l inner := by
 refine ⟨hl, fun i x hx => ?_⟩
 have hi := (List.getElem?_eq_some_iff.1 hx).1
 have he := (List.getElem?_eq_some_iff.1 hx).2
 refine List.ext_getElem? (fun k => ?_)
 rw [List.getElem?_take]
 by_cases hk : k < 13
 · rw [if_pos hk, List.getElem?_drop, h _ (by omega)]
   have h1 : (i * 13 + k) / 13 = i := by omega
   have h2 : (i * 13 + k) % 13 = k := by omega
   have hm : k < x.cells.length := hk
   simp [cellAt, h1, h2, List.getD_eq_getElem?_getD, hx, hm]
 · rw [if_neg hk, List.getElem?_eq_none (by rw [cells13]; omega)]
theorem flat_at (d : Array Kt) (j : Nat) (hj : j < d.size * 13) : (flatK enc 13 d)[j]! = cellAt (d.toList.map Kt.x) j := by
 rw [get_flatK _ _ _ _ hj]
 have hi : j / 13 < d.size := by omega
 have h1 : (d.toList.map Kt.x)[j / 13]? = some d[j / 13].x := by
  rw [List.getElem?_map, Array.getElem?_toList, Array.getElem?_eq_getElem hi]
  rfl
 have h2 : d[j / 13]! = d[j / 13] := getElem!_pos d _ hi
 rw [h2]
 unfold cellAt enc
 rw [List.getD_eq_getElem?_getD, h1]
 rfl
theorem sort_c {w : World} {B : Nat} {v : Value} {X l : List Kp} (hrow : Kd.R kKp 117 w B (fun k => k ≠ B) v X) (hp : X.Perm l) (hs : l.Pairwise (fun x y => x.t < y.t)) (ht : ∀ x ∈ l, 0 < x.t ∧ x.t ≤ 4611686018427387904) (hl : l.length ≤ 1000000) :
 Calls Try.prog 102 #[v, .func (.func 103) #[] #[]] w fun e w' => e = .returned (.tuple #[]) ∧ Kd.R kKp 117 w' B (fun _ => True) v l ∧ (∀ w0, Below B w0 w → Below B w0 w') := by
 obtain ⟨_, inner, ⟨hlen, hv⟩, hreps⟩ := hrow
 rw [show kKp.sz = 13 from rfl] at hlen hv hreps
 rcases hv with ⟨rfl, h0⟩ | ⟨G, cap, cur, rfl, hG, hH, hcap, hmax, hsz, htake⟩
 · have hX : X = [] := List.length_eq_zero_iff.1 h0
   subst hX
   have hl0 : l = [] := List.nil_perm.1 hp
   subst hl0
   refine (AnyF.slices_SortFunc_none (P := Try.prog) (ρ := Srt.nums) Srt.lays none 0 _ w).mono ?_
   rintro e w' ⟨rfl, rfl⟩
   exact ⟨rfl, Kd.R_nil _ _ _ _ _, fun _ h => h⟩
 · have hX : ∀ x ∈ X, 0 < x.t ∧ x.t ≤ 4611686018427387904 := fun x hx => ht x (hp.mem_iff.1 hx)
   obtain ⟨d, hd⟩ : ∃ d : Array Kt, d.toList.map Kt.x = X := ⟨(X.pmap (fun x h => (⟨x, h⟩ : Kt)) hX).toArray, by simp [List.map_pmap]⟩
   have hds : d.size = X.length := by rw [← hd]; simp
   have hGs : G < w.heap.size := (Array.getElem?_eq_some_iff.1 hH).1
   have hXl : X.length = l.length := hp.length_eq
   have hget : ∀ j, j < X.length * 13 → cur[j]? = some (cellAt X j) := fun j hj => by
    have h1 := reps_get hreps j hj
    rw [← htake, List.getElem?_take, if_pos hj] at h1
    simpa using h1
   have hhold : HoldsK enc 13 w G 0 d := fun j hj => by
    rw [size_flatK] at hj
    have h1 := hget j (by rw [← hds]; exact hj)
    rw [flat_at d j hj, hd]
    simp only [Nat.zero_add]
    exact ⟨by simp [World.cell?, hH, h1], by simp [World.frozen?, hH]⟩
   have eg : ∀ args w, (callFunc 103 args).run Try.prog w = .ok (.enter 103 args) w := enters_of Try.func103 (by kernel_rfl) rfl
   have hcmp : CmpLays Try.prog 103 #[] enc 13 cf G 0 d.size w := fun m os dk hdk x y => by
    have h1 := x.ok
    have h2 := y.ok
    exact cmp_c x.x y.x (cf x y) (by unfold wrap64 cf; omega) _
   have hcon := AnyQ.slices_SortFunc (P := Try.prog) (ρ := Srt.nums) Srt.lays 13 (fun _ => by kernel_rfl) (fun _ => by kernel_rfl) enc (fun x => rfl) (fun x v hv => kKp.K_one (w := w) (x := x.x) rfl v hv) cf swo 103 #[] G 0 cap d w eg hcmp hhold hGs (by omega)
   rw [hds] at hcon
   refine hcon.mono ?_
   rintro e w' ⟨rfl, d', n, os, hP, hS, rfl⟩
   obtain ⟨hd1, _, hd2⟩ := hP
   have e1 : d'.extract 0 d.size = d' := by rw [← hd1]; exact Array.extract_size
   rw [← hds, e1, Array.extract_size] at hd2
   have hl' : d'.toList.map Kt.x = l := by
    have hpp : (d'.toList.map Kt.x).Perm l := ((hd2.map Kt.x).trans (by rw [hd])).trans hp
    refine List.Perm.eq_of_pairwise (le := fun x y => x.t ≤ y.t) ?_ ?_ (hs.imp (fun h => Int.le_of_lt h)) hpp
    · intro a c ha hc h1 h2
      have ha' := hpp.mem_iff.1 ha
      obtain ⟨i, hi, rfl⟩ := List.getElem_of_mem ha'
      obtain ⟨k, hk, rfl⟩ := List.getElem_of_mem hc
      rw [List.pairwise_iff_getElem] at hs
      by_cases c1 : i < k
      · have := hs i k hi hk c1; omega
      · by_cases c2 : k < i
        · have := hs k i hk hi c2; omega
        · have : i = k := by omega
          subst this
          rfl
    · rw [List.pairwise_map, List.pairwise_iff_getElem]
      intro i k hi hk hik
      have h1 := hS i k (Nat.zero_le _) hik (by simp at hk; omega)
      simp at hi hk
      rw [getElem!_pos d' k hk, getElem!_pos d' i hi] at h1
      have a1 := of_decide_eq_false (show decide (d'[k].x.t - d'[i].x.t < 0) = false from h1)
      simp
      omega
   have hdl : d'.size = l.length := by rw [← hl']; simp
   have hcell : ∀ j, (putCells id 0 (flatK enc 13 d') cur)[j]? = (cur[j]?).map (fun u => if j < l.length * 13 then cellAt l j else u) := fun j => by
    simp only [putCells, Array.getElem?_mapIdx, Nat.zero_le, true_and, Nat.zero_add, Nat.sub_zero, size_flatK, hdl, id]
    by_cases hj : j < l.length * 13
    · simp only [if_pos hj]
      rw [flat_at d' j (by rw [hdl]; exact hj), hl']
    · simp only [if_neg hj]
   have hblk : (sortWorldK enc 13 w G 0 n d' os).heap[G]? = some (.cells (putCells id 0 (flatK enc 13 d') cur) 117 (0, 0)) := by
    unfold sortWorldK
    rw [heap_grow_old _ _ (by unfold putRowK; simp; exact hGs)]
    show (w.heap.modify G _)[G]? = _
    rw [Array.getElem?_modify, if_pos rfl, hH]
    rfl
   have hoth : ∀ i, i < w.heap.size → i ≠ G → (sortWorldK enc 13 w G 0 n d' os).heap[i]? = w.heap[i]? := fun i hi hne => by
    unfold sortWorldK
    rw [heap_grow_old _ _ (by unfold putRowK; simp; exact hi)]
    show (w.heap.modify G _)[i]? = _
    rw [Array.getElem?_modify, if_neg (fun e => hne e.symm)]
   have hgrow : w.heap.size ≤ (sortWorldK enc 13 w G 0 n d' os).heap.size := by
    unfold sortWorldK putRowK
    simp
   refine ⟨rfl, ⟨fun _ _ => trivial, (putCells id 0 (flatK enc 13 d') cur).toList.take (l.length * 13), ⟨?_, .inr ⟨G, cap, _, by rw [hXl], hG, hblk, by omega, hmax, by simp [putCells]; exact hsz, rfl⟩⟩, ?_⟩, fun w0 hb => ⟨hb.os, hb.tape, hb.output, Nat.le_trans hb.size hgrow, fun i hi => ?_⟩⟩
   · rw [List.length_take]
     simp [putCells]
     have : l.length * 13 ≤ cap * 13 := by omega
     show min (l.length * 13) cur.size = l.length * 13
     rw [hsz]
     omega
   · refine reps_of ?_ (fun j hj => ?_)
     · rw [List.length_take]
       simp [putCells]
       rw [hsz]
       omega
     · rw [List.getElem?_take, if_pos hj, Array.getElem?_toList, hcell j]
       have hc := hget j (by rw [hXl]; exact hj)
       rw [hc]
       simp [hj]
   · exact (hoth i (by omega) (by omega)).trans (hb.block i hi)
open Go.ChangeShapes Go.WideShapes Go.MapKept
open Go.ChangeMaps (modify_eq_set setBlock keptBut_setBlock heap_setBlock_same heap_setBlock_other)
theorem iter_set {w : World} {r : Nat} {m : Option Nat} {s c : Nat} {seen : Array Nat} (hr : w.heap[r]? = some (.mapIter m s seen c)) (o : Obj) : (setBlock w r o).heap[r]? = some o ∧ ∀ i, i ≠ r → (setBlock w r o).heap[i]? = w.heap[i]? := heap_set hr
theorem undKs : Try.prog.underlying 123 = some (.slice 117) := by kernel_rfl
theorem size1 (w : World) (o : Obj) : (w.alloc o).heap.size = w.heap.size + 1 := by simp [World.alloc, -World.alloc_eq]
def zK : Value := .agg #[.string ⟨#[]⟩, .int .i64 0, .int .i64 0, .int .i64 0, .int .i64 0, .int .i64 0, .int .i64 0, .int .i64 0, .string ⟨#[]⟩, .int .i64 0, .slice none 0 0, .int .i64 0, .int .i64 0]
theorem infoK : (Try.prog.info? 117).map (fun i => (i.zero, i.size, i.bytes)) = some (some zK, kKp.sz, 136) := by kernel_rfl
theorem next_world {w wr w1 : World} {b mc c0 : Nat} {seen : Array Nat} {es : Array MapEntry} {l X : List Kp} {v : Value} (hw1 : w1 = wr ∨ w1 = wr.drew) (hit : wr.heap[w.heap.size]? = some (.mapIter (some b) mc seen c0)) (hm : wr.heap[b]? = some (.map es mc)) (hbw : b < w.heap.size)
 (hrow : Kd.R kKp 117 wr w.heap.size (fun k => k ≠ w.heap.size) v X) (hb : Below w.heap.size w wr) (hsz : w.heap.size < wr.heap.size) (hE : Ents es mc l) (e : MapEntry) (he : e ∈ (leftOf es seen).toList) :
 ∃ wq x, setBlock w1 w.heap.size (.mapIter (some b) mc (seen.push e.born) mc) = wq ∧ e.key = x.nm.val ∧ e.val = x.val ∧ (leftZ (Zs es l) seen).Perm ((e, x) :: leftZ (Zs es l) (seen.push e.born)) ∧ wq.heap[w.heap.size]? = some (.mapIter (some b) mc (seen.push e.born) mc)
   ∧ Kd.R kKp 117 wq w.heap.size (fun k => k ≠ w.heap.size) v X ∧ Below w.heap.size w wq ∧ w.heap.size < wq.heap.size ∧ (Instr.entry (.pointer (some ⟨w.heap.size, 0, none⟩))).run Try.prog wq = .ok (.tuple #[x.nm.val, x.val]) wq := by
 obtain ⟨x, hx, h1, h2, h3⟩ := left_step hE seen e he
 have hit1 : w1.heap[w.heap.size]? = some (.mapIter (some b) mc seen c0) := by rcases hw1 with rfl | rfl <;> exact hit
 have hb1 : Below w.heap.size w w1 := by
  rcases hw1 with rfl | rfl
  · exact hb
  · exact below_drew1 hb
 have hs1 : w1.heap.size = wr.heap.size := by rcases hw1 with rfl | rfl <;> rfl
 have hk1 : ∀ i : Nat, w1.heap[i]? = wr.heap[i]? := by 
  intro i
  rcases hw1 with rfl | rfl
  · rfl
  · rfl
 obtain ⟨ha, ho⟩ := iter_set hit1 (.mapIter (some b) mc (seen.push e.born) mc)
 have hzq : (setBlock w1 w.heap.size (.mapIter (some b) mc (seen.push e.born) mc)).heap.size = w1.heap.size := by simp [ChangeMaps.setBlock]
 have hmq : (setBlock w1 w.heap.size (.mapIter (some b) mc (seen.push e.born) mc)).heap[b]? = some (.map es mc) := (ho b (by omega)).trans ((hk1 b).trans hm)
 have hmem : e ∈ es.toList := by
  unfold leftOf at he
  simp at he
  simpa using he.1
 refine ⟨_, x, rfl, h1, h2, h3, ha, Kd.R_kept hrow ⟨by rw [hzq, hs1]; exact Nat.le_refl _, fun i _ hi => (ho i hi).trans (hk1 i)⟩ (fun k hk => hk), ⟨hb1.os, hb1.tape, hb1.output, by rw [hzq]; exact hb1.size, fun i hi => (ho i (by omega)).trans (hb1.block i hi)⟩, by rw [hzq, hs1]; exact hsz, ?_⟩
 rw [← h1, ← h2]
 exact run_entry_at _ w.heap.size b mc seen es mc e ha hmq hmem hE.nodup
theorem perm_next {α : Type} {Z Z' : List (α × Kp)} {e : α} {x : Kp} {X l : List Kp} (hp : Z.Perm ((e, x) :: Z')) (h : (X ++ Z.map Prod.snd).Perm l) : ((X ++ [x]) ++ Z'.map Prod.snd).Perm l := by
 have h1 := hp.map Prod.snd
 have h2 := (h1.append_left X).symm.trans h
 simpa using h2
theorem len_next {α : Type} {Z Z' : List (α × Kp)} {e : α} {x : Kp} (hp : Z.Perm ((e, x) :: Z')) : Z.length = Z'.length + 1 := by
 have h1 := hp.length_eq
 simpa using h1
set_option maxHeartbeats 4000000 in
set_option maxRecDepth 100000 in
theorem order_c {w : World} {g b : Nat} {no bytes used clk : Int} {l : List Kp} (h : RelIs w g b no bytes used clk l) (hl : l.length ≤ 1000000) (hclk : clk ≤ 4611686018427387904) :
 Calls Try.prog 73 #[.pointer (some ⟨g, 0, none⟩)] w fun e w' => ∃ v, e = .returned v ∧ Kd.R kKp 117 w' w.heap.size (fun _ => True) v l ∧ Below w.heap.size w w' := by
 have q4 : w.cell? ⟨g, 4, none⟩ = some (.map (some b)) := ck h.relay 4 _ rfl
 have hg := blk_lt h.relay
 obtain ⟨es, mc, hm, hE⟩ := h.map
 have hbl := blk_lt hm
 have HM := Lib.hid hm
 have HE := Lib.hid hE
 have HG := Lib.hid hg
 have HBL := Lib.hid hbl
 have HL := Lib.hid hl
 have HR := Lib.hid h
 have HT := Lib.hid (fun x hx => ⟨(h.times x hx).1, Int.le_trans (h.times x hx).2 hclk⟩ : ∀ x ∈ l, 0 < x.t ∧ x.t ≤ 4611686018427387904)
 clear hclk hm hE hg hbl hl h
 go_enter Try.func73, Try.ntmps73
 go_wp2_with (refine wpl_range _ rfl _ _ rfl _ _ undM b es mc HM.out rfl ?_)
 go_frame
 go_loopg [2] ((leftZ (Zs es l) #[]).length + 1) (fun kq v2 w' => ∃ (seen : Array Nat) (c0 : Nat) (X : List Kp), w'.heap[w.heap.size]? = some (.mapIter (some b) mc seen c0) ∧ mc ≤ c0 ∧ Kd.R kKp 117 w' w.heap.size (fun k => k ≠ w.heap.size) v2 X ∧ (X ++ (leftZ (Zs es l) seen).map Prod.snd).Perm l ∧ Below w.heap.size w w' ∧ w.heap.size < w'.heap.size ∧ (leftZ (Zs es l) seen).length < kq)
 case atStart =>
  refine ⟨#[], mc, [], (heap_alloc _ _).1, Nat.le_refl _, Kd.R_nil _ _ _ _ _, ?_, below_alloc (Below.refl _ _) _, by simp [World.alloc, -World.alloc_eq], Nat.lt_succ_self _⟩
  have : leftZ (Zs es l) #[] = Zs es l := List.filter_eq_self.2 (fun z _ => by simp)
  rw [this, HE.out.snd]
  exact List.Perm.refl _
 case round =>
  obtain ⟨seen, c0, X, hit, hc0, hrow, hperm, hb, hsz, hk⟩ := hrel
  have HIT := Lib.hid hit
  have HMB := Lib.hid ((hb.block b HBL.out).trans HM.out)
  have HC0 := Lib.hid hc0
  have HROW := Lib.hid hrow
  have HPERM := Lib.hid hperm
  have HB := Lib.hid hb
  have HSZ := Lib.hid hsz
  have HK := Lib.hid hk
  clear hit hc0 hrow hperm hb hsz hk
  go_wp2_with (first
   | (refine wpl_next _ rfl _ rfl w.heap.size b mc c0 seen es mc rfl HIT.out HMB.out HE.out.born HC0.out ?hd ?hm
      case' hd => intro h0; have H0 := Lib.hid h0; clear h0
      case' hm =>
       intro e he w1 hw1
       obtain ⟨wq, x, hq, h1, h2, hp, hit, hrow, hb, hsz, hen⟩ := next_world hw1 HIT.out HMB.out HBL.out HROW.out HB.out HSZ.out HE.out e he
       rw [hq, h1, h2]
       obtain ⟨⟨f0, f1, ⟨k1_, k2, k3⟩, ⟨b1, b2, b3⟩, f4, f5, f6⟩, A, c, sz, t⟩ := x
       simp only [Kp.val, Kp.cells, Kp.nm, nmOf, Nm.val, Nm.cells] at hen ⊢
       have HP := Lib.hid hp
       have HI2 := Lib.hid hit
       have HR2 := Lib.hid hrow
       have HB2 := Lib.hid hb
       have HS2 := Lib.hid hsz
       clear hp hit hrow hb hsz hq h1 h2 hw1 he)
   | ((with_reducible refine gate_builtin (b := .append) (xs := #[.tmp 14, .tmp 16]) rfl ?_); at_builtin
      go_loud (refine Kd.R_append kKp (w0 := w) (W := wq.alloc (.cells ([.string f0, .int .i64 f1, .int .i64 k1_, .int .i64 k2, .int .i64 k3, .int .i64 b1, .int .i64 b2, .int .i64 b3, .string f4, .int .i64 f5, .slice A f6.length c, .int .i64 sz, .int .i64 t] : List Value).toArray 117 (0, 0))) w.heap.size rfl (.tmp 14) (.tmp 16) 123 117 zK 136 rfl undKs infoK rfl (show 0 < 13 by omega) (by omega) u2 X (⟨⟨f0, f1, ⟨k1_, k2, k3⟩, ⟨b1, b2, b3⟩, f4, f5, f6⟩, A, c, sz, t⟩ : Kp) [.string f0, .int .i64 f1, .int .i64 k1_, .int .i64 k2, .int .i64 k3, .int .i64 b1, .int .i64 b2, .int .i64 b3, .string f4, .int .i64 f5, .slice A f6.length c, .int .i64 sz, .int .i64 t] (fun k => k ≠ w.heap.size) (fun _ => False) rfl ?aX ?aP (fun _ hk => hk.elim) ?aF ?aO ?aB ?aS ?aL ?_)
      go_loud (case aX => rw [size1 wq]; rfl)
      go_loud (case aP => exact rfl)
      go_loud (case aF => intro k hk e; subst e; have := HS2.out; rw [size1 wq] at hk; omega)
      go_loud (case aO => exact Kd.R_kept HR2.out ((Kept.refl wq (fun _ => False)).alloc _) (fun _ _ hf => hf))
      go_loud (case aB => exact below_alloc HB2.out _)
      go_loud (case aS => have := HS2.out; rw [size1 wq]; omega)
      go_loud (case aL => have := HPERM.out.length_eq; simp at this; have := HL.out; omega)
      intro v9 w9 ho9 hb9 hg9 hat9
      have HO9 := Lib.hid ho9
      have HB9 := Lib.hid hb9
      have HIT9 := Lib.hid ((hg9.block w.heap.size (by have := HS2.out; rw [size1 wq]; omega) (fun e => HR2.out.1 _ e.symm rfl)).trans (((heap_alloc wq _).2 _ HS2.out).trans HI2.out))
      have HS9 := Lib.hid (Nat.lt_of_lt_of_le (show w.heap.size < (wq.alloc (.cells ([.string f0, .int .i64 f1, .int .i64 k1_, .int .i64 k2, .int .i64 k3, .int .i64 b1, .int .i64 b2, .int .i64 b3, .string f4, .int .i64 f5, .slice A f6.length c, .int .i64 sz, .int .i64 t] : List Value).toArray 117 (0, 0))).heap.size by have := HS2.out; rw [size1 wq]; omega) hg9.size)
      clear ho9 hb9 hg9 hat9)
   | (go_at_call 102
      have hnil := left_none HE.out seen H0.out
      have hp0 := HPERM.out
      rw [hnil, List.map_nil, List.append_nil] at hp0
      refine (sort_c HROW.out hp0 HR.out.sorted HT.out HL.out).mono ?_
      rintro e w9 ⟨rfl, ho9, hb9⟩
      have HO9 := Lib.hid ho9
      have HB9 := Lib.hid (hb9 w HB.out)
      clear ho9 hb9 hnil hp0))
  · cases gk with
    | zero => have := HK.out; omega
    | succ k1 =>
      go_roundg k1
      case measure => omega
      case rel => exact ⟨seen.push e.born, mc, _, HIT9.out, Nat.le_refl _, HO9.out, perm_next HP.out HPERM.out, HB9.out, HS9.out, by have h1 := len_next HP.out; have h2 := HK.out; omega⟩
  · go_ret
    exact ⟨_, rfl, HO9.out, HB9.out⟩
theorem undSs : Try.prog.underlying 53 = some (.slice 9) := by kernel_rfl
theorem infoS : (Try.prog.info? 9).map (fun i => (i.zero, i.size, i.bytes)) = some (some (.string ⟨#[]⟩), Kd.string.sz, 16) := by kernel_rfl
theorem eqS (a : Option Addr) (n c : Nat) (w : World) : (binOp .eql 53 (.slice a n c) (.slice none 0 0)).run Try.prog w = .ok (.bool a.isNone) w := by
 have := Lib.run_eql_slice_nil (P := Try.prog) w 53 9 a n c 0 0 undSs
 exact this
set_option maxHeartbeats 4000000 in
set_option maxRecDepth 100000 in
theorem clone_some (xs : List ByteArray) (ad : Addr) (c : Nat) (w : World) (h : Kd.C Kd.string w (some ad) xs.length xs) (hl : xs.length ≤ 1000000) :
 Calls Try.prog 74 #[.slice (some ad) xs.length c] w fun e w' => ∃ v, e = .returned v ∧ Kd.R Kd.string 9 w' w.heap.size (fun _ => True) v xs ∧ Below w.heap.size w w' := by
 have HC7 := Lib.hid h
 have HL := Lib.hid hl
 clear h hl
 have he1 := eqS (some ad) xs.length c
 simp only [Option.isNone_some] at he1
 go_enter Try.func74, Try.ntmps74
 go_wp2_with (first
  | ((with_reducible refine gate_dst (N := 5) rfl ?_); refine Kd.R_lit Kd.string w.heap.size 9 ?hg (N := 5) ?hd (w0 := w) (xs := ([] : List ByteArray)) (inner := []) (ok := fun _ => True) (okp := fun _ => True) ?hr ?hp (fun _ hk => hk) trivial (Below.refl _ _) (Nat.le_refl _) (by simp) ?_; (case hd => rfl); (case hg => rfl); (case hr => first | (go_simp; done) | (go_simp; rfl)); (case hp => exact (Reps.none _ _)); intro v5 w5 ho5 hb5 hg_ hnew_; have HO5 := Lib.hid ho5; have HB5 := Lib.hid hb5; clear hg_ hnew_ ho5 hb5)
  | ((with_reducible refine gate_builtin (b := .append) (xs := #[.tmp 5, .tmp 6]) rfl ?_); at_builtin; go_loud (refine Kd.R_append_rows Kd.string (w0 := w) w.heap.size rfl (.tmp 5) (.tmp 6) 53 9 (.string ⟨#[]⟩) 16 rfl undSs infoS rfl (by decide) (by omega) v5 [] xs (some ad) xs.length c (fun _ => True) (fun _ => False) rfl rfl ?aO ?aR (fun _ _ h => h) (fun _ h => h.elim) ?aF ?aB ?aS ?aL ?_); (case aR => exact Kd.C_below HC7.out HB5.out); (case aB => exact HB5.out); (case aF => exact fun _ _ => trivial); (case aO => exact HO5.out); (case aS => exact HB5.out.size); (case aL => have := HL.out; simp; omega); intro v6 w6 ho6 hb6 hg6 hat6; simp only [List.nil_append] at ho6; have HO6 := Lib.hid ho6; have HB6 := Lib.hid hb6; clear ho6 hb6 hg6 hat6))
 go_ret
 exact ⟨_, rfl, HO6.out, HB6.out⟩
set_option maxHeartbeats 4000000 in
set_option maxRecDepth 100000 in
theorem clone_nil (n c : Nat) (w : World) :
 Calls Try.prog 74 #[.slice none n c] w fun e w' => ∃ v, e = .returned v ∧ Kd.R Kd.string 9 w' w.heap.size (fun _ => True) v ([] : List ByteArray) ∧ Below w.heap.size w w' := by
 have he1 := eqS none n c
 simp only [Option.isNone_none] at he1
 go_enter Try.func74, Try.ntmps74
 go_wp2
 go_ret
 exact ⟨_, rfl, Kd.R_nil _ _ _ _ _, Below.refl _ _⟩
theorem clone_c (xs : List ByteArray) (A : Option Addr) (c : Nat) (w : World) (h : Kd.C Kd.string w A xs.length xs) (hl : xs.length ≤ 1000000) :
 Calls Try.prog 74 #[.slice A xs.length c] w fun e w' => ∃ v, e = .returned v ∧ Kd.R Kd.string 9 w' w.heap.size (fun _ => True) v xs ∧ Below w.heap.size w w' := by
 cases A with
 | some ad => exact clone_some xs ad c w h hl
 | none =>
   cases xs with
   | nil => exact clone_nil 0 c w
   | cons x xs =>
     obtain ⟨ad, he, _⟩ := h.2.2 (by simp)
     cases he
theorem zeroK (w : World) : (zeroValue 117).run Try.prog w = .ok zK w := by kernel_rfl
theorem RelIs.hit {w : World} {g b : Nat} {no bytes used clk : Int} {l : List Kp} (h : RelIs w g b no bytes used clk l) (j : Nat) (x : Kp) (hx : l[j]? = some x) :
 (Instr.lookup 80 (.map (some b)) x.nm.val true).run Try.prog w = .ok (.tuple #[x.val, .bool true]) w := by
 obtain ⟨es, mc, hm, hE⟩ := h.map
 obtain ⟨e, he, hk, hv⟩ := hE.at_ j x hx
 have hxm : x ∈ l := List.mem_of_getElem? hx
 rw [run_lookup_hit hm (hE.keysOk (fun y hy => (h.good y hy).ok)) x.nm (h.good x hxm).ok j e he hk (hE.pair h.apart) true, hv]
 rfl
theorem RelIs.miss {w : World} {g b : Nat} {no bytes used clk : Int} {l : List Kp} (h : RelIs w g b no bytes used clk l) (n : Nm) (hn : n.Ok) (hm : ∀ x ∈ l, x.nm ≠ n) :
 (Instr.lookup 80 (.map (some b)) n.val true).run Try.prog w = .ok (.tuple #[zK, .bool false]) w := by
 obtain ⟨es, mc, hmm, hE⟩ := h.map
 rw [run_lookup_miss hmm (hE.keysOk (fun y hy => (h.good y hy).ok)) n hn (fun e he => by
  obtain ⟨x, hx, h1, _⟩ := hE.mem he
  rw [h1]
  exact fun q => hm x hx (nm_inj q)) zK zeroK true]
 rfl
theorem RelIs.push {w : World} {g b : Nat} {no bytes used clk : Int} {l : List Kp} (h : RelIs w g b no bytes used clk l) (x : Kp) (hx : x.Good w g b) (hnew : ∀ y ∈ l, y.nm ≠ x.nm) (h0 : 0 < x.t) (h1 : x.t ≤ clk) (hlt : ∀ y ∈ l, y.t < x.t) :
 ∃ w', (Instr.mapUpdate 80 (.map (some b)) x.nm.val x.val).run Try.prog w = .ok () w' ∧ RelIs w' g b no bytes used clk (l ++ [x]) ∧ Only g b w w' := by
 obtain ⟨es, mc, hm, hE⟩ := h.map
 have hO : Only g b w (setBlock w b (.map (es.push ⟨x.nm.val, x.val, mc⟩) (mc + 1))) := (Only.refl g b w).setBlock hm _
 refine ⟨_, run_update_new hm (hE.keysOk (fun y hy => (h.good y hy).ok)) x.nm hx.ok (fun e he => by
  obtain ⟨y, hy, h1, _⟩ := hE.mem he
  rw [h1]
  exact fun q => hnew y hy (nm_inj q)) x.val, ⟨(heap_setBlock_other hm _ h.gb).trans h.relay, ⟨_, _, heap_setBlock_same hm _, hE.push x⟩, ?_, ?_, ?_, ?_⟩, hO⟩
 · exact List.pairwise_append.2 ⟨h.apart, List.pairwise_singleton _ _, fun y hy z hz => by rw [List.mem_singleton.1 hz]; exact hnew y hy⟩
 · intro y hy
   rcases List.mem_append.1 hy with hy | hy
   · exact (h.good y hy).only hO
   · rw [List.mem_singleton.1 hy]; exact hx.only hO
 · exact List.pairwise_append.2 ⟨h.sorted, List.pairwise_singleton _ _, fun y hy z hz => by rw [List.mem_singleton.1 hz]; exact hlt y hy⟩
 · intro y hy
   rcases List.mem_append.1 hy with hy | hy
   · exact h.times y hy
   · rw [List.mem_singleton.1 hy]; exact ⟨h0, h1⟩
def EncIs (p : S55) (r : ByteArray) : Prop := ∃ k, patch_Encode.f k p.f0 p.f1 p.f2.f0 p.f2.f1 p.f2.f2 p.f3.f0 p.f3.f1 p.f3.f2 p.f4 p.f5 p.f6 = some r
theorem enc_c {p : S55} {r : ByteArray} (h : EncIs p r) (A : Option Addr) (c : Nat) (w : World) (hr : Kd.C Kd.string w A p.f6.length p.f6) (hc : p.f6.length ≤ c) :
 Calls Try.prog 37 #[.agg (pcells p A c).toArray] w fun e w' => e = .returned (.string r) ∧ Below w.heap.size w w' := by
 obtain ⟨k, h⟩ := h
 exact patch_Encode.calls k _ _ _ _ _ _ _ _ _ _ A c p.f6 r w hr hc h
set_option maxHeartbeats 4000000 in
set_option maxRecDepth 100000 in
theorem Keep_big {w : World} {g b : Nat} {no bytes used clk : Int} {l : List Kp} (h : RelIs w g b no bytes used clk l) (h0 : bytes ≠ 0) (p : S55) (A : Option Addr) (c : Nat) (r : ByteArray) (hr : Kd.C Kd.string w A p.f6.length p.f6) (hc : p.f6.length ≤ c) (he : EncIs p r) (hb : bytes < (r.size : Int)) :
 Calls Try.prog 31 #[.pointer (some ⟨g, 0, none⟩), .agg (pcells p A c).toArray] w fun e w' => e = .returned (.int .i64 50) ∧ Below w.heap.size w w' := by
 obtain ⟨f0, f1, ⟨k1, k2, k3⟩, ⟨b1, b2, b3⟩, f4, f5, f6⟩ := p
 have HE := Lib.hid he
 have HR := Lib.hid hr
 have HC := Lib.hid hc
 have HB := Lib.hid (Below.refl w.heap.size w)
 have q1 : w.cell? ⟨g, 1, none⟩ = some (.int .i64 bytes) := ck h.relay 1 _ rfl
 have hg : g < w.heap.size := blk_lt h.relay
 have e1 : (bytes == 0) = false := beq_eq_false_iff_ne.mpr h0
 have e2 : decide (bytes < (r.size : Int)) = true := decide_eq_true hb
 clear he hr hc h h0 hb
 show Calls _ _ #[_, .agg #[.string f0, .int .i64 f1, .int .i64 k1, .int .i64 k2, .int .i64 k3, .int .i64 b1, .int .i64 b2, .int .i64 b3, .string f4, .int .i64 f5, .slice A f6.length c]] _ _
 go_enter Try.func31, Try.ntmps31
 go_wp2_with (go_at_call 37; go_loud (refine (enc_c HE.out A c _ (Kd.C_alloc HR.out _) HC.out).mono ?_); rintro e w1 ⟨rfl, hb1⟩; go_loud (have HB1 := Lib.hid ((below_alloc HB.out _).trans (hb1.mono (below_alloc HB.out _).size)); have q2 := (HB1.out.cell (p := ⟨g, 1, none⟩) hg).trans q1); clear hb1)
 go_ret
 exact ⟨rfl, HB1.out⟩
end Go.Proofs.Ythokkeljfdfppaa.Rl

