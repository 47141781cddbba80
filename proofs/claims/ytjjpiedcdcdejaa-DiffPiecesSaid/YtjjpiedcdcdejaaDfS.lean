/- The examples of the chapter: abugidalaw24.sanity, walked. -/
import Derived.Test.YtjjpiedcdcdejaaDfN
set_option linter.unusedVariables false
set_option linter.unusedSimpArgs false
namespace Go.Proofs.Ytjjpiedcdcdejaa.Pure
open Go.RowKit Go.Proofs.Ytjjpiedcdcdejaa.Pb Go.Proofs.YtjjpiedcdcdejaaW.PrintWords Go.Proofs.YtjjpiedcdcdejaaW.PrintLast Go.Proofs.YtjjpiedcdcdejaaW.PrintMore Go.Proofs.Ytjjpiedcdcdejaa.Gw
open Go.Proofs.Ytjjpiedcdcdejaa.Df (diff_Make.f diff_Make.calls diff_Apply.f diff_Apply.calls Pcs ck applyF)
theorem C_strs (W : World) (ts : List ByteArray) (T : TypeId) (hl : ts.length ≤ 9223372036854775807) : Kd.C Kd.string (W.alloc (.cells (ts.map Value.string).toArray T)) (some ⟨W.heap.size, 0, none⟩) ts.length ts := by
  have hb := (MapKept.heap_alloc W (.cells (ts.map Value.string).toArray T)).1
  refine ⟨rfl, hl, fun _ => ⟨_, rfl, fun j p hp => ⟨[.string p], rfl, rfl, fun i u hi => ?_⟩⟩⟩
  match i, hi with
  | 0, hi =>
    cases hi
    have h := ck hb j (.string p) (by simp [hp])
    have e : (⟨W.heap.size, 0, none⟩ : Addr).add (j * Kd.string.sz + 0) = ⟨W.heap.size, j, none⟩ := by
      rw [show j * Kd.string.sz + 0 = j from Nat.mul_one j]
      unfold Addr.add
      split
      · rename_i h0; rw [h0]
      · simp
    exact (congrArg _ e).trans h
theorem C_ints (W : World) (cs : List Int) (T : TypeId) (hl : cs.length ≤ 9223372036854775807) : Kd.C (Kd.int .i64) (W.alloc (.cells (cs.map (Value.int .i64)).toArray T)) (some ⟨W.heap.size, 0, none⟩) cs.length cs := by
  have hb := (MapKept.heap_alloc W (.cells (cs.map (Value.int .i64)).toArray T)).1
  refine ⟨rfl, hl, fun _ => ⟨_, rfl, fun j p hp => ⟨[.int .i64 p], rfl, rfl, fun i u hi => ?_⟩⟩⟩
  match i, hi with
  | 0, hi =>
    cases hi
    have h := ck hb j (.int .i64 p) (by simp [hp])
    have e : (⟨W.heap.size, 0, none⟩ : Addr).add (j * (Kd.int .i64).sz + 0) = ⟨W.heap.size, j, none⟩ := by
      rw [show j * (Kd.int .i64).sz + 0 = j from Nat.mul_one j]
      unfold Addr.add
      split
      · rename_i h0; rw [h0]
      · simp
    exact (congrArg _ e).trans h
theorem code_c (cs : List Int) (ts : List ByteArray) (hS : Small cs ts) (A0 : Option Addr) (c0 : Nat) (A1 : Option Addr) (c1 : Nat) (w : World) (h0 : Kd.C (Kd.int .i64) w A0 cs.length cs) (k0 : cs.length ≤ c0) (h1 : Kd.C Kd.string w A1 ts.length ts) (k1 : ts.length ≤ c1) :
    Calls Try.prog 18 #[.slice A0 cs.length c0, .slice A1 ts.length c1] w fun e w' => e = .returned (.string (codeB cs ts)) ∧ Below w.heap.size w w' := by
  obtain ⟨k, hk⟩ := (code_ev cs ts hS).rounds
  exact abugidalaw24_code.calls k A0 c0 cs A1 c1 ts _ w h0 k0 h1 k1 hk
theorem fails_c {s d : ByteArray} {e : Int} (h : Ev (fun k => abugidalaw24_fails.f k s d e) true) (w : World) : Calls Try.prog 25 #[.string s, .string d, .int .i64 e] w fun x w' => x = .returned (.bool true) ∧ Below w.heap.size w w' := by
  obtain ⟨k, hk⟩ := h.rounds
  exact abugidalaw24_fails.calls k s d e true w hk
theorem fails_nil : Ev (fun k => abugidalaw24_fails.f k ⟨#[97, 98, 99]⟩ ⟨#[]⟩ 4) true := by
  have hcut := Apply_cut ⟨#[97, 98, 99]⟩ [] [] (small_of (by decide +kernel)) (by decide) 0 (by rw [codeB, ByteArray.size_append]; have := IntB_pos (([] : List Int).length : Int); have e : IntsB [] = IntB (([] : List Int).length : Int) := rfl; rw [e]; omega)
  rw [show (codeB [] []).extract 0 0 = ⟨#[]⟩ by apply ByteArray.ext; simp] at hcut
  exact fails_of hcut
theorem fails_l {s : ByteArray} {cs : List Int} {ts : List ByteArray} {e : Int} (hS : smallB cs ts = true) (hs : s.size ≤ 1000000) (h : applyF s cs ts ⟨#[]⟩ false = (⟨#[]⟩, e)) (w : World) :
    Calls Try.prog 25 #[.string s, .string (codeB cs ts), .int .i64 e] w fun x w' => x = .returned (.bool true) ∧ Below w.heap.size w w' := fails_c (fails_code (small_of hS) hs h) w
theorem make_is_c {s tg : ByteArray} {cs : List Int} {ts : List ByteArray} (hs : s.size ≤ 65536) (ht : tg.size ≤ 2000) (h : Pcs s tg = (cs, ts)) (w : World) : Calls Try.prog 12 #[.string s, .string tg] w fun e w' => e = .returned (.string (codeB cs ts)) ∧ Below w.heap.size w w' := by
  obtain ⟨k, hk⟩ := (Make_is hs ht h).rounds
  exact diff_Make.calls k s tg _ w hk
theorem apply_is_c (s : ByteArray) (cs : List Int) (ts : List ByteArray) (hS : smallB cs ts = true) (hs : s.size ≤ 1000000) (r : ByteArray) (e : Int) (h : applyF s cs ts ⟨#[]⟩ false = (r, e)) (w : World) : Calls Try.prog 16 #[.string s, .string (codeB cs ts)] w fun x w' => x = .returned (.tuple #[.string r, .int .i64 e]) ∧ Below w.heap.size w w' := by
  have h1 := Apply_code0 s cs ts (small_of hS) hs
  rw [h] at h1
  obtain ⟨k, hk⟩ := h1.rounds
  exact diff_Apply.calls k _ _ r e w hk
/-- Numbers and strings laid one behind the other, and the difference made of them. -/
theorem code_lit (W : World) (cs : List Int) (ts : List ByteArray) (n p : Nat) (x y : Array Value) (T1 T2 : TypeId) (hn : cs.length = n) (hp : ts.length = p) (hx : (cs.map (Value.int .i64)).toArray = x) (hy : (ts.map Value.string).toArray = y) (hS : smallB cs ts = true) :
    Calls Try.prog 18 #[.slice (some ⟨W.heap.size, 0, none⟩) n n, .slice (some ⟨W.heap.size + 1, 0, none⟩) p p] ((W.alloc (.cells x T1)).alloc (.cells y T2))
      fun e w' => e = .returned (.string (codeB cs ts)) ∧ Below W.heap.size W w' := by
  subst hn hp hx hy
  have hs := small_of hS
  have h1 := hs.c
  have h2 := hs.t
  have hz : (W.alloc (.cells (cs.map (Value.int .i64)).toArray T1)).heap.size = W.heap.size + 1 := by simp [World.alloc, -World.alloc_eq]
  have hc := C_strs (W.alloc (.cells (cs.map (Value.int .i64)).toArray T1)) ts T2 (by omega)
  rw [hz] at hc
  refine (code_c cs ts hs _ _ _ _ _ (Kd.C_alloc (C_ints W cs T1 (by omega)) _) (Nat.le_refl _) hc (Nat.le_refl _)).mono ?_
  rintro e w' ⟨he, hb⟩
  have hb0 := below_alloc (below_alloc (Below.refl W.heap.size W) (.cells (cs.map (Value.int .i64)).toArray T1)) (.cells (ts.map Value.string).toArray T2)
  exact ⟨he, hb0.trans (hb.mono hb0.size)⟩
theorem code_nil (W : World) (t : ByteArray) (T : TypeId) (hS : smallB [] [t] = true) :
    Calls Try.prog 18 #[.slice none 0 0, .slice (some ⟨W.heap.size, 0, none⟩) 1 1] (W.alloc (.cells #[.string t] T)) fun e w' => e = .returned (.string (codeB [] [t])) ∧ Below W.heap.size W w' := by
  refine (code_c [] [t] (small_of hS) none 0 _ 1 _ (Kd.C_nil _ _) (Nat.le_refl _) (C_strs W [t] T (by show 1 ≤ _; omega)) (Nat.le_refl _)).mono ?_
  rintro e w' ⟨he, hb⟩
  have hb0 := below_alloc (Below.refl W.heap.size W) (.cells #[.string t] T)
  exact ⟨he, hb0.trans (hb.mono hb0.size)⟩
set_option maxHeartbeats 4000000 in
set_option maxRecDepth 100000 in
theorem sanity_walk (w : World) : Calls Try.prog 10 #[] w fun e w' => e = .returned (.bool true) ∧ Below w.heap.size w w' := by
  have HB := Lib.hid (Below.refl w.heap.size w)
  have e1 : ∀ (cs : List Int) (ts : List ByteArray), ((codeB cs ts).toList == (codeB cs ts).toList) = true := fun cs ts => beq_self_eq_true _
  go_enter Try.func10, Try.ntmps10
  go_wp2_with (first
    | (go_at_call 12; (first
      | with_reducible refine (make_is_c (by decide) (by decide) pcs1 _).mono ?_
      | with_reducible refine (make_is_c (by decide) (by decide) pcs2 _).mono ?_
      | with_reducible refine (make_is_c (by decide) (by decide) pcs3 _).mono ?_); rintro e wm ⟨rfl, hb⟩; have n_ := Lib.hid (HB.out.trans (hb.mono HB.out.size)); clear HB hb; have HB := n_; clear n_)
    | (go_at_call 18; (first
      | with_reducible refine (code_lit _ [0, 4, 2, 4] [⟨#[]⟩, ⟨#[88]⟩, ⟨#[]⟩] 4 3 #[.int .i64 0, .int .i64 4, .int .i64 2, .int .i64 4] #[.string ⟨#[]⟩, .string ⟨#[88]⟩, .string ⟨#[]⟩] 3 9 rfl rfl rfl rfl (by decide +kernel)).mono ?_
      | with_reducible refine (code_lit _ [3, 4] [⟨#[]⟩, ⟨#[97, 98, 99, 120]⟩] 2 2 #[.int .i64 3, .int .i64 4] #[.string ⟨#[]⟩, .string ⟨#[97, 98, 99, 120]⟩] 3 9 rfl rfl rfl rfl (by decide +kernel)).mono ?_
      | with_reducible refine (code_lit _ [1, 2, 0, 1] [⟨#[60]⟩, ⟨#[]⟩, ⟨#[62]⟩] 4 3 #[.int .i64 1, .int .i64 2, .int .i64 0, .int .i64 1] #[.string ⟨#[60]⟩, .string ⟨#[]⟩, .string ⟨#[62]⟩] 3 9 rfl rfl rfl rfl (by decide +kernel)).mono ?_
      | with_reducible refine (code_lit _ [1, 3] [⟨#[]⟩, ⟨#[]⟩] 2 2 #[.int .i64 1, .int .i64 3] #[.string ⟨#[]⟩, .string ⟨#[]⟩] 3 9 rfl rfl rfl rfl (by decide +kernel)).mono ?_
      | with_reducible refine (code_lit _ [3, 1] [⟨#[]⟩, ⟨#[]⟩] 2 2 #[.int .i64 3, .int .i64 1] #[.string ⟨#[]⟩, .string ⟨#[]⟩] 3 9 rfl rfl rfl rfl (by decide +kernel)).mono ?_
      | with_reducible refine (code_lit _ [0, 0] [⟨#[]⟩, ⟨#[]⟩] 2 2 #[.int .i64 0, .int .i64 0] #[.string ⟨#[]⟩, .string ⟨#[]⟩] 3 9 rfl rfl rfl rfl (by decide +kernel)).mono ?_
      | with_reducible refine (code_lit _ [(-1), 2] [⟨#[]⟩, ⟨#[]⟩] 2 2 #[.int .i64 (-1), .int .i64 2] #[.string ⟨#[]⟩, .string ⟨#[]⟩] 3 9 rfl rfl rfl rfl (by decide +kernel)).mono ?_
      | with_reducible refine (code_nil _ ⟨#[97, 98, 99]⟩ 9 (by decide +kernel)).mono ?_); rintro e wm ⟨rfl, hb⟩; have n_ := Lib.hid (HB.out.trans (hb.mono HB.out.size)); clear HB hb; have HB := n_; clear n_)
    | (go_at_call 16; with_reducible refine (apply_is_c ⟨#[97, 98, 99, 100, 101, 102]⟩ [1, 2, 0, 1] [⟨#[60]⟩, ⟨#[]⟩, ⟨#[62]⟩] (by decide +kernel) (by decide) _ _ app1 _).mono ?_; rintro e wm ⟨rfl, hb⟩; have n_ := Lib.hid (HB.out.trans (hb.mono HB.out.size)); clear HB hb; have HB := n_; clear n_)
    | (go_at_call 25; (first
      | with_reducible refine (fails_l (by decide +kernel) (by decide) app2 _).mono ?_
      | with_reducible refine (fails_l (by decide +kernel) (by decide) app3 _).mono ?_
      | with_reducible refine (fails_l (by decide +kernel) (by decide) app4 _).mono ?_
      | with_reducible refine (fails_l (by decide +kernel) (by decide) app5 _).mono ?_
      | with_reducible refine (fails_c fails_nil _).mono ?_); rintro e wm ⟨rfl, hb⟩; have n_ := Lib.hid (HB.out.trans (hb.mono HB.out.size)); clear HB hb; have HB := n_; clear n_))
  go_ret
  exact ⟨rfl, HB.out⟩
end Go.Proofs.Ytjjpiedcdcdejaa.Pure
namespace Go.Proofs.Ytjjpiedcdcdejaa.Df
open Go.RowKit Go.Proofs.YtjjpiedcdcdejaaW.PrintWords
/-- The examples hold: as a given contract of the print. -/
def abugidalaw24_sanity.f : Option Bool := some true
theorem abugidalaw24_sanity.calls (r : Bool) (w : World) (h : abugidalaw24_sanity.f = some r) : Calls Try.prog 10 #[] w fun e w' => e = .returned (.bool r) ∧ Below w.heap.size w w' := by
  obtain rfl : true = r := Option.some.inj h
  exact Pure.sanity_walk w
end Go.Proofs.Ytjjpiedcdcdejaa.Df
namespace Go.Proofs.Ytjjpiedcdcdejaa.Pure
open Go.Proofs.YtjjpiedcdcdejaaW.PrintWords
theorem sanity_ev : Ev (fun _ => Df.abugidalaw24_sanity.f) true := Ev.now _
end Go.Proofs.Ytjjpiedcdcdejaa.Pure
