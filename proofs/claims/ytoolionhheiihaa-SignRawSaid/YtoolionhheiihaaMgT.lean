/- Several texts of this claim, one behind the other: SgN, SgP, SgQ, SgR. -/
import Derived.Test.YtoolionhheiihaaMgS
import Derived.Test.YtoolionhheiihaaMgW
import Derived.Test.YtoolionhheiihaaPby2
import Derived.Test.YtoolionhheiihaaMgR
/- Digests in numbers, for the kernel: the chapter's examples. -/
set_option linter.unusedVariables false
set_option linter.unusedSimpArgs false
namespace Go.Proofs.Ytoolionhheiihaa.Sg
open Go.RowKit Go.Proofs.YtoolionhheiihaaW.PrintWords Go.Proofs.YtoolionhheiihaaW.PrintLast Go.Proofs.YtoolionhheiihaaW.PrintMore Go.Proofs.Ytoolionhheiihaa.Dg Go.Proofs.Ytoolionhheiihaa.Gv Go.Proofs.Ytoolionhheiihaa.Pb Go.Proofs.Ytoolionhheiihaa.Gw Go.Proofs.Ytoolionhheiihaa.Pure
def bN (a : ByteArray) : List Nat := a.data.toList.map UInt8.toNat
theorem bN_append (a b : ByteArray) : bN (a ++ b) = bN a ++ bN b := by simp [bN]
def xN (x : Nat) (l : List Nat) : Nat := l.foldl (fun x c => (x * 1000003 + c + 1) % 2147483647) x
def yN (x : Nat) (l : List Nat) : Nat := l.foldl (fun x c => (x * 69069 + c + 1) % 2147483629) x
def OfN (l : List Nat) : List Nat := [xN 7 l / 16777216 % 256, xN 7 l / 65536 % 256, xN 7 l / 256 % 256, xN 7 l % 256, yN 11 l / 16777216 % 256, yN 11 l / 65536 % 256, yN 11 l / 256 % 256, yN 11 l % 256]
theorem fx_N (l : List UInt8) : ∀ x : Nat, fx (x : Int) l = (xN x (l.map UInt8.toNat) : Nat) := by
  induction l with
  | nil => intro x; rfl
  | cons c l ih =>
    intro x
    have := ih ((x * 1000003 + c.toNat + 1) % 2147483647)
    rw [show (((x * 1000003 + c.toNat + 1) % 2147483647 : Nat) : Int) = sx (x : Int) c.toNat by simp only [sx]; omega] at this
    exact this
theorem fy_N (l : List UInt8) : ∀ x : Nat, fy (x : Int) l = (yN x (l.map UInt8.toNat) : Nat) := by
  induction l with
  | nil => intro x; rfl
  | cons c l ih =>
    intro x
    have := ih ((x * 69069 + c.toNat + 1) % 2147483629)
    rw [show (((x * 69069 + c.toNat + 1) % 2147483629 : Nat) : Int) = sy (x : Int) c.toNat by simp only [sy]; omega] at this
    exact this
theorem bN_strOfNums (l : List Nat) (h : ∀ m ∈ l, m < 256) : bN (strOfNums (l.map Int.ofNat)) = l := by
  simp only [bN, strOfNums]
  simp only [List.map_map]
  conv => rhs; rw [← List.map_id l]
  apply List.map_congr_left
  intro m hm
  have := h m hm
  simp
  omega
theorem bN_dg (x y : Nat) : bN (dg x y) = [x / 16777216 % 256, x / 65536 % 256, x / 256 % 256, x % 256, y / 16777216 % 256, y / 65536 % 256, y / 256 % 256, y % 256] := by
  have e : dg x y = strOfNums (([x / 16777216 % 256, x / 65536 % 256, x / 256 % 256, x % 256, y / 16777216 % 256, y / 65536 % 256, y / 256 % 256, y % 256] : List Nat).map Int.ofNat) := by
    simp [dg, bb]
  rw [e]
  exact bN_strOfNums _ (by simp; omega)
theorem bN_Of (a : ByteArray) : bN (OfB a) = OfN (bN a) := by
  rw [OfB, show (7 : Int) = ((7 : Nat) : Int) from rfl, show (11 : Int) = ((11 : Nat) : Int) from rfl, fx_N, fy_N, bN_dg]
  rfl
def lnkN (s : List Nat) : Nat → List Nat
  | 0 => s
  | n + 1 => OfN (lnkN s n)
theorem bN_lnk (s : ByteArray) (n : Nat) : bN (lnk s n) = lnkN (bN s) n := by
  induction n with
  | zero => rfl
  | succ n ih => rw [lnk, bN_Of, ih]; rfl
theorem bN_int (n : Nat) (h : n < 64) : bN (IntB n) = [2 * n] := by
  have e : zig (n : Int) = 2 * n := by unfold zig; rw [if_pos (by omega)]; omega
  rw [IntB, e, vb_lo (by omega)]
  exact bN_strOfNums _ (by simp; omega)
def startN (s : List Nat) (no c : Nat) : List Nat := OfN ([2 * s.length] ++ s ++ [2 * no] ++ [2 * c])
theorem bN_length (a : ByteArray) : (bN a).length = a.size := by simp [bN]
theorem bN_start (s : ByteArray) (no c : Nat) (hs : s.size < 64) (h1 : no < 64) (h2 : c < 64) : bN (startB s no c) = startN (bN s) no c := by
  rw [startB, bN_Of, bN_append, bN_append, TextB, bN_append, bN_int _ hs, bN_int _ h1, bN_int _ h2, startN, bN_length]
def endsN (st : Nat → List Nat) : Nat → List Nat
  | 0 => []
  | n + 1 => endsN st n ++ lnkN (st n) 15
theorem bN_ends (s : ByteArray) (no : Nat) (hs : s.size < 64) (h1 : no < 64) : ∀ n, n ≤ 18 → bN (ends (startB s no) n) = endsN (startN (bN s) no) n
  | 0, _ => rfl
  | n + 1, h => by rw [ends, bN_append, bN_ends s no hs h1 n (by omega), bN_lnk, bN_start s no n hs h1 (by omega)]; rfl
def leafN (s : List Nat) (no : Nat) : List Nat := OfN (endsN (startN s no) 18)
theorem bN_leaf (s : ByteArray) (no : Nat) (hs : s.size < 64) (h1 : no < 64) : bN (leafB s no) = leafN (bN s) no := by
  rw [leafB, bN_Of, bN_ends s no hs h1 18 (Nat.le_refl _)]; rfl
end Go.Proofs.Ytoolionhheiihaa.Sg

/- The reference of layer 4 answers what package sign does. -/
set_option linter.unusedVariables false
set_option linter.unusedSimpArgs false
namespace Go.Proofs.Ytoolionhheiihaa.Sg
open Go.RowKit Go.Proofs.YtoolionhheiihaaW.PrintWords Go.Proofs.YtoolionhheiihaaW.PrintLast Go.Proofs.YtoolionhheiihaaW.PrintMore Go.Proofs.Ytoolionhheiihaa.Dg Go.Proofs.Ytoolionhheiihaa.Gv Go.Proofs.Ytoolionhheiihaa.Pb Go.Proofs.Ytoolionhheiihaa.Gw Go.Proofs.Ytoolionhheiihaa.Pure
theorem refOf_ev (a : ByteArray) (h : a.size ≤ 9223372036854775807) : Ev (fun k => abugidaref03_Of.f k a) (OfB a) := ⟨a.size + 1, fun k hk => PureD.ref_Of a h k (by omega)⟩
theorem lnk_9000 (s : ByteArray) (hs : s.size ≤ 9000) (n : Nat) : (lnk s n).size ≤ 9000 := by
  cases n with
  | zero => exact hs
  | succ n => rw [lnk, OfB_size]; omega
theorem links_loop (s : ByteArray) (hs : s.size ≤ 9000) (n : Nat) (hn : n ≤ 1000) (d : Nat) : ∀ j : Nat, n - j = d → j ≤ n → Ev (fun k => abugidaref04_Links.l0 k (lnk s j) n j) (lnk s n) := by
  induction d with
  | zero =>
    intro j hd hj
    obtain rfl : j = n := by omega
    refine Ev.step (fun k => abugidaref04_Links.l0.eq_2 ..) ?_
    exact evN (by omega) (Ev.now _)
  | succ d ih =>
    intro j hd hj
    refine Ev.step (fun k => abugidaref04_Links.l0.eq_2 ..) ?_
    refine evI (by omega) ?_
    refine Ev.bind (refOf_ev _ (Nat.le_trans (lnk_9000 s hs j) (by omega))) ?_
    rw [show wrap64 ((j : Int) + 1) = ((j + 1 : Nat) : Int) from w64 (by omega) (by omega)]
    exact ih (j + 1) (by omega) (by omega)
theorem links_ev (s : ByteArray) (hs : s.size ≤ 9000) (n : Nat) (hn : n ≤ 1000) : Ev (fun k => abugidaref04_Links.f k s n) (lnk s n) := links_loop s hs n hn n 0 (by omega) (by omega)
theorem link_ev (seed : ByteArray) (hs : seed.size ≤ 9000) (no c n : Nat) (h1 : no ≤ 1000000) (h2 : c ≤ 1000000) (hn : n ≤ 1000) : Ev (fun k => abugidaref04_Link.f k seed no c n) (lnk (startB seed no c) n) := by
  have z1 := TextB_size seed hs
  have z2 := IntB_small (no : Int) (by omega) (by omega)
  have z3 := IntB_small (c : Int) (by omega) (by omega)
  unfold abugidaref04_Link.f
  refine Ev.bind (ref_Text_ev seed hs) ?_
  refine Ev.bind (ref_Int_ev no (by omega) (by omega)) ?_
  refine evI (by omega) ?_
  refine Ev.bind (ref_Int_ev c (by omega) (by omega)) ?_
  refine evI (by simp only [ByteArray.size_append]; omega) ?_
  refine Ev.bind (refOf_ev _ (by simp only [ByteArray.size_append]; omega)) ?_
  exact Ev.bind (links_ev _ (by rw [OfB_size]; omega) n hn) (Ev.now _)
theorem leaf_loop (seed : ByteArray) (hs : seed.size ≤ 9000) (no : Nat) (h1 : no ≤ 1000000) (d : Nat) : ∀ c : Nat, 18 - c = d → c ≤ 18 → Ev (fun k => abugidaref04_leaf.l0 k seed no (ends (startB seed no) c) c) (leafB seed no) := by
  induction d with
  | zero =>
    intro c hd hc
    obtain rfl : c = 18 := by omega
    refine Ev.step (fun k => abugidaref04_leaf.l0.eq_2 ..) ?_
    refine evN (by omega) ?_
    exact Ev.bind (refOf_ev _ (by rw [ends_size]; omega)) (Ev.now _)
  | succ d ih =>
    intro c hd hc
    refine Ev.step (fun k => abugidaref04_leaf.l0.eq_2 ..) ?_
    refine evI (by omega) ?_
    refine Ev.bind (link_ev seed hs no c 15 h1 (by omega) (by omega)) ?_
    refine evI (by rw [ends_size, lnk_size8 (startB seed no c) (OfB_size _)]; omega) ?_
    rw [show wrap64 ((c : Int) + 1) = ((c + 1 : Nat) : Int) from w64 (by omega) (by omega)]
    exact ih (c + 1) (by omega) (by omega)
theorem leaf_ev (seed : ByteArray) (hs : seed.size ≤ 9000) (no : Nat) (h1 : no ≤ 1000000) : Ev (fun k => abugidaref04_leaf.f k seed no) (leafB seed no) := leaf_loop seed hs no h1 18 0 (by omega) (by omega)
theorem leaves_loop (seed : ByteArray) (hs : seed.size ≤ 9000) (n : Nat) (hn : n ≤ 1000) (d : Nat) : ∀ j : Nat, n - j = d → j ≤ n → Ev (fun k => abugidaref04_leaves.l0 k seed n (lvs seed j) j) (lvs seed n) := by
  induction d with
  | zero =>
    intro j hd hj
    obtain rfl : j = n := by omega
    refine Ev.step (fun k => abugidaref04_leaves.l0.eq_2 ..) ?_
    exact evN (by omega) (Ev.now _)
  | succ d ih =>
    intro j hd hj
    refine Ev.step (fun k => abugidaref04_leaves.l0.eq_2 ..) ?_
    refine evI (by omega) ?_
    refine Ev.bind (leaf_ev seed hs j (by omega)) ?_
    refine evI (by rw [lvs_length]; omega) ?_
    rw [show wrap64 ((j : Int) + 1) = ((j + 1 : Nat) : Int) from w64 (by omega) (by omega), ← lvs_succ]
    exact ih (j + 1) (by omega) (by omega)
theorem leaves_ev (seed : ByteArray) (hs : seed.size ≤ 9000) (n : Nat) (hn : n ≤ 1000) : Ev (fun k => abugidaref04_leaves.f k seed n) (lvs seed n) := leaves_loop seed hs n hn n 0 (by omega) (by omega)
theorem Public_ev (seed : ByteArray) (hs : seed.size ≤ 9000) (n : Nat) (h1 : 1 ≤ n) (hn : n ≤ 16) : Ev (fun k => abugidaref04_Public.f k seed n) (PubB seed n, 0) := by
  unfold abugidaref04_Public.f
  refine evN (by omega) ?_
  rw [show decide ((n : Int) > 16) = false from decide_eq_false (by omega)]
  refine Ev.step (fun k => abugidaref04_Public.j0.eq_2 ..) ?_
  refine evN Bool.false_ne_true ?_
  refine Ev.bind (leaves_ev seed hs n (by omega)) ?_
  refine Ev.bind (PureD.Root_ev (lvs seed n) (by rw [lvs_length]; omega) (fun s h => by rw [lvs_small seed n s h]; omega)) ?_
  exact Ev.now _
theorem Public_ev_no (seed : ByteArray) (n : Int) (h : n < 1 ∨ 16 < n) : Ev (fun k => abugidaref04_Public.f k seed n) (⟨#[]⟩, 1) := by
  have hj : Ev (fun k => abugidaref04_Public.j0 k seed n true) (⟨#[]⟩, 1) := Ev.step (fun k => abugidaref04_Public.j0.eq_2 ..) (evI rfl (Ev.now _))
  unfold abugidaref04_Public.f
  by_cases h1 : n < 1
  · exact evI h1 hj
  · refine evN h1 ?_
    rwa [show decide (n > 16) = true from decide_eq_true (by omega)]
theorem bt_rb (b : ByteArray) (j : Nat) : bt b (j : Int) = rb b j := by
  unfold bt rb
  rw [Int.toNat_natCast]
  by_cases h : j < b.size
  · rw [dif_pos h, List.getD_eq_getElem?_getD, List.getElem?_eq_getElem (by simpa using h)]
    rfl
  · rw [dif_neg h, List.getD_eq_getElem?_getD, List.getElem?_eq_none (by simpa using h)]
    rfl
theorem dgts_eq (b : ByteArray) : (List.range 16).map (hx b) ++ [restv b 8 / 16, restv b 8 % 16] = (List.range 18).map (dgt b) := rfl
theorem Digits_loop (b : ByteArray) (hb : b.size = 8) (d : Nat) : ∀ j : Nat, 8 - j = d → j ≤ 8 → Ev (fun k => abugidaref04_Digits.l0 k b ((List.range (2 * j)).map (hx b)) (240 - 30 * (j : Int) + restv b j) j) ((List.range 18).map (dgt b)) := by
  induction d with
  | zero =>
    intro j hd hj
    obtain rfl : j = 8 := by omega
    have hr := restv_range b 8
    refine Ev.step (fun k => abugidaref04_Digits.l0.eq_2 ..) ?_
    refine evN (by rw [hb]; omega) ?_
    have e0 : (240 - 30 * ((8 : Nat) : Int) + restv b 8) = restv b 8 := by omega
    rw [e0]
    have e1 : wrap64 (Int.tdiv (restv b 8) 16) = restv b 8 / 16 := by rw [Int.tdiv_eq_ediv_of_nonneg hr.1]; exact w64 (by omega) (by omega)
    have e2 : Int.tmod (restv b 8) 16 = restv b 8 % 16 := Int.tmod_eq_emod_of_nonneg hr.1
    rw [e1, e2]
    refine Ev.bind (Ev.now _) ?_
    refine evI (by simp) ?_
    rw [← dgts_eq]
    exact Ev.now _
  | succ d ih =>
    intro j hd hj
    have hr := restv_range b j
    have h0 := hx_range b (2 * j)
    have h1 := hx_range b (2 * j + 1)
    have hrb := rb_range b j
    have e1 : wrap64 (Int.tdiv (wrap64 (bt b j)) 16) = hx b (2 * j) := by
      rw [bt_rb, w64 (x := rb b j) (by omega) (by omega), Int.tdiv_eq_ediv_of_nonneg hrb.1]
      exact hx_even b j
    have e2 : Int.tmod (wrap64 (bt b j)) 16 = hx b (2 * j + 1) := by
      rw [bt_rb, w64 (x := rb b j) (by omega) (by omega), Int.tmod_eq_emod_of_nonneg hrb.1, hx, if_neg (by omega), show (2 * j + 1) / 2 = j from by omega]
    refine Ev.step (fun k => abugidaref04_Digits.l0.eq_2 ..) ?_
    refine evI (by rw [hb]; omega) ?_
    refine evI (by omega) ?_
    rw [e1, e2]
    refine Ev.bind (Ev.now _) ?_
    refine evI (by simp; omega) ?_
    have e3 : wrap64 (wrap64 (240 - 30 * (j : Int) + restv b j - hx b (2 * j)) - hx b (2 * j + 1)) = 240 - 30 * ((j + 1 : Nat) : Int) + restv b (j + 1) := by
      rw [w64 (x := 240 - 30 * (j : Int) + restv b j - hx b (2 * j)) (by omega) (by omega), w64 (by omega) (by omega), restv]
      omega
    rw [e3, show wrap64 ((j : Int) + 1) = ((j + 1 : Nat) : Int) from w64 (by omega) (by omega)]
    have e4 : (List.range (2 * j)).map (hx b) ++ [hx b (2 * j), hx b (2 * j + 1)] = (List.range (2 * (j + 1))).map (hx b) := by
      rw [show 2 * (j + 1) = 2 * j + 1 + 1 from by omega, List.range_succ, List.range_succ]
      simp
    rw [e4]
    exact ih (j + 1) (by omega) (by omega)
/-- The digits, as a list. -/
def dgs (b : ByteArray) : List Int := (List.range 18).map (dgt b)
theorem dgs_length (b : ByteArray) : (dgs b).length = 18 := by simp [dgs]
theorem dgs_get (b : ByteArray) (c : Nat) (h : c < 18) : rd (dgs b) (c : Int) = dgt b c := by
  simp [rd, dgs, h]
theorem Digits_ev (msg : ByteArray) (hm : msg.size ≤ 9000) : Ev (fun k => abugidaref04_Digits.f k msg) (dgs (OfB msg)) := by
  unfold abugidaref04_Digits.f
  refine Ev.bind (refOf_ev msg (by omega)) ?_
  exact Digits_loop (OfB msg) (OfB_size _) 8 0 (by omega) (by omega)
theorem Parts_ev (i : Int) (h0 : -9223372036854775808 ≤ i) (h1 : i ≤ 9223372036854775807) (L P : List ByteArray) (hL : L.length ≤ 1000) (hP : P.length ≤ 1000) (hLs : ∀ s ∈ L, s.size ≤ 9000) (hPs : ∀ s ∈ P, s.size ≤ 9000) :
    Ev (fun k => abugidaref04_Parts.f k i L P) ((IntB i ++ TextsB L) ++ TextsB P) := by
  have zi := IntB_small i h0 h1
  have zl := Pure.TextsB_size L hL hLs
  have zp := Pure.TextsB_size P hP hPs
  unfold abugidaref04_Parts.f
  refine Ev.bind (ref_Int_ev i h0 h1) ?_
  refine Ev.bind (ref_Texts_ev L hL hLs) ?_
  refine evI (by omega) ?_
  refine Ev.bind (ref_Texts_ev P hP hPs) ?_
  refine evI (by simp only [ByteArray.size_append]; omega) ?_
  exact Ev.now _
theorem Sign_loop (seed : ByteArray) (hs : seed.size ≤ 9000) (n i : Nat) (h1 : 1 ≤ n) (hn : n ≤ 16) (hi : i < n) (msg : ByteArray) (d : Nat) : ∀ c : Nat, 18 - c = d → c ≤ 18 →
    Ev (fun k => abugidaref04_Sign.l0 k seed n i (sgs seed i (OfB msg) c) (dgs (OfB msg)) c) (SigB seed n i msg, 0) := by
  have hP := ProofF_lvs seed n h1 hn i
  induction d with
  | zero =>
    intro c hd hc
    obtain rfl : c = 18 := by omega
    refine Ev.step (fun k => abugidaref04_Sign.l0.eq_2 ..) ?_
    refine evN (by omega) ?_
    refine Ev.bind (leaves_ev seed hs n (by omega)) ?_
    refine Ev.bind (PureD.Proof_ev (lvs seed n) (by rw [lvs_length]; omega) (fun s h => by rw [lvs_small seed n s h]; omega) i) ?_
    refine Ev.bind (Parts_ev i (by omega) (by omega) _ _ (by rw [sgs_length]; omega) (by omega) (fun s h => by rw [sgs_size _ _ _ _ s h]; omega) (fun s h => Nat.le_trans (hP.2 s h) (by omega))) ?_
    exact Ev.now _
  | succ d ih =>
    intro c hd hc
    have hr := dgt_range (OfB msg) c
    refine Ev.step (fun k => abugidaref04_Sign.l0.eq_2 ..) ?_
    refine evI (by omega) ?_
    refine evI (by omega) ?_
    refine evI (by rw [dgs_length]; omega) ?_
    rw [dgs_get _ c (by omega)]
    have e : dgt (OfB msg) c = ((dgt (OfB msg) c).toNat : Int) := by omega
    refine Ev.bind (a := lnk (startB seed i c) (dgt (OfB msg) c).toNat) (by rw [e]; exact link_ev seed hs i c (dgt (OfB msg) c).toNat (by omega) (by omega) (by omega)) ?_
    refine evI (by rw [sgs_length]; omega) ?_
    rw [show wrap64 ((c : Int) + 1) = ((c + 1 : Nat) : Int) from w64 (by omega) (by omega), ← sgs_succ]
    exact ih (c + 1) (by omega) (by omega)
theorem Sign_ev (seed : ByteArray) (hs : seed.size ≤ 9000) (n i : Nat) (h1 : 1 ≤ n) (hn : n ≤ 16) (hi : i < n) (msg : ByteArray) (hm : msg.size ≤ 9000) : Ev (fun k => abugidaref04_Sign.f k seed n i msg) (SigB seed n i msg, 0) := by
  unfold abugidaref04_Sign.f
  refine evN (by omega) ?_
  refine evN (by omega) ?_
  refine evN (by omega) ?_
  rw [show decide ((i : Int) ≥ (n : Int)) = false from decide_eq_false (by omega)]
  refine Ev.step (fun k => abugidaref04_Sign.j0.eq_2 ..) ?_
  refine evN Bool.false_ne_true ?_
  refine Ev.bind (Digits_ev msg hm) ?_
  exact Sign_loop seed hs n i h1 hn hi msg 18 0 (by omega) (by omega)
theorem Sign_ev_no (seed : ByteArray) (n i : Int) (msg : ByteArray) (h : n < 1 ∨ 16 < n ∨ i < 0 ∨ n ≤ i) : Ev (fun k => abugidaref04_Sign.f k seed n i msg) (⟨#[]⟩, 1) := by
  have hj : Ev (fun k => abugidaref04_Sign.j0 k seed n i msg true) (⟨#[]⟩, 1) := Ev.step (fun k => abugidaref04_Sign.j0.eq_2 ..) (evI rfl (Ev.now _))
  unfold abugidaref04_Sign.f
  by_cases h1 : n < 1
  · exact evI h1 hj
  · refine evN h1 ?_
    by_cases h2 : n > 16
    · exact evI h2 hj
    · refine evN h2 ?_
      by_cases h3 : i < 0
      · exact evI h3 hj
      · refine evN h3 ?_
        rwa [show decide (i ≥ n) = true from decide_eq_true (by omega)]
theorem Check_loop_no (pub : ByteArray) (i : Int) (l P : List ByteArray) (b : ByteArray) (hl : l.length = 18) (hz : ∀ s ∈ l, s.size ≤ 1000) (d : Nat) : ∀ c : Nat, 18 - c = d → c ≤ 18 → (∀ j, j < c → (l.getD j ⟨#[]⟩).size = 8) →
    (∃ j, c ≤ j ∧ j < 18 ∧ (l.getD j ⟨#[]⟩).size ≠ 8) → Ev (fun k => abugidaref04_Check.l0 k pub i l P (dgs b) (ends2 l b c) c) false := by
  induction d with
  | zero => intro c hd hc _ ⟨j, h1, h2, _⟩; omega
  | succ d ih =>
    intro c hd hc hy ⟨j, h1, h2, h3⟩
    have hr := dgt_range b c
    refine Ev.step (fun k => abugidaref04_Check.l0.eq_2 ..) ?_
    refine evI (by omega) ?_
    refine evI (by omega) ?_
    refine evI (by rw [hl]; omega) ?_
    have er : rdOf ByteArray.empty l (c : Int) = l.getD c ⟨#[]⟩ := by rw [rdOf, Int.toNat_natCast]; rfl
    rw [er]
    by_cases h8 : (l.getD c ⟨#[]⟩).size = 8
    · refine evI (by omega) ?_
      refine evI (by rw [dgs_length]; omega) ?_
      rw [dgs_get b c (by omega), w64 (by omega) (by omega), show 15 - dgt b c = ((15 - dgt b c).toNat : Int) by omega]
      refine Ev.bind (links_ev _ (by omega) _ (by omega)) ?_
      refine evI (by rw [ends2_size l b c hy, lnk_size8 _ h8]; omega) ?_
      rw [show wrap64 ((c : Int) + 1) = ((c + 1 : Nat) : Int) from w64 (by omega) (by omega)]
      refine ih (c + 1) (by omega) (by omega) (fun m hm => ?_) ⟨j, ?_, h2, h3⟩
      · by_cases e : m = c
        · subst e; exact h8
        · exact hy m (by omega)
      · by_cases e : j = c
        · subst e; exact absurd h8 h3
        · omega
    · exact evN (by omega) (Ev.now _)
theorem Check_loop_yes (pub : ByteArray) (i : Int) (l P : List ByteArray) (b : ByteArray) (hl : l.length = 18) (hi : i ≤ 9223372036854775807) (hP : ∀ s ∈ P, s.size ≤ 9000) (hy : ∀ j, j < 18 → (l.getD j ⟨#[]⟩).size = 8) (d : Nat) : ∀ c : Nat, 18 - c = d → c ≤ 18 →
    Ev (fun k => abugidaref04_Check.l0 k pub i l P (dgs b) (ends2 l b c) c) (VerifyF pub (OfB (ends2 l b 18)) i P) := by
  induction d with
  | zero =>
    intro c hd hc
    obtain rfl : c = 18 := by omega
    refine Ev.step (fun k => abugidaref04_Check.l0.eq_2 ..) ?_
    refine evN (by omega) ?_
    refine Ev.bind (refOf_ev _ (by rw [ends2_size l b 18 hy]; omega)) ?_
    exact Ev.bind (PureD.Verify_ev _ _ _ _ hi (by rw [OfB_size]; omega) hP) (Ev.now _)
  | succ d ih =>
    intro c hd hc
    have hr := dgt_range b c
    have h8 := hy c (by omega)
    refine Ev.step (fun k => abugidaref04_Check.l0.eq_2 ..) ?_
    refine evI (by omega) ?_
    refine evI (by omega) ?_
    refine evI (by rw [hl]; omega) ?_
    have er : rdOf ByteArray.empty l (c : Int) = l.getD c ⟨#[]⟩ := by rw [rdOf, Int.toNat_natCast]; rfl
    rw [er]
    refine evI (by omega) ?_
    refine evI (by rw [dgs_length]; omega) ?_
    rw [dgs_get b c (by omega), w64 (by omega) (by omega), show 15 - dgt b c = ((15 - dgt b c).toNat : Int) by omega]
    refine Ev.bind (links_ev _ (by omega) _ (by omega)) ?_
    refine evI (by rw [ends2_size l b c (fun j hj => hy j (by omega)), lnk_size8 _ h8]; omega) ?_
    rw [show wrap64 ((c : Int) + 1) = ((c + 1 : Nat) : Int) from w64 (by omega) (by omega)]
    exact ih (c + 1) (by omega) (by omega)
/-- What is read of a signature, by the program and by the reference. -/
theorem Check_same (pub msg sig : ByteArray) (hs : sig.size ≤ 1000) (hm : msg.size ≤ 9000) :
    ∃ (i : Int) (l P : List ByteArray) (q1 q2 q3 : ByteArray) (b1 b2 b3 : Bool), Ev (fun k => wire_Reader_Int.f k sig false) (i, q1, b1) ∧ Ev (fun k => wire_Reader_Texts.f k q1 b1) (l, q2, b2) ∧ Ev (fun k => wire_Reader_Texts.f k q2 b2) (P, q3, b3) ∧
      i ≤ 9223372036854775807 ∧ (∀ s ∈ P, s.size ≤ 1000) ∧ Ev (fun k => abugidaref04_Check.f k pub msg sig) (chkF pub msg i l P q3 b3) := by
  obtain ⟨i, q1, i1, b1, p1, r1, s1, hi, _, _⟩ := Int_same sig hs sig false 0 ⟨rfl, fun _ => ⟨0, rfl, by omega, by simp⟩⟩
  obtain ⟨l, q2, i2, b2, p2, r2, s2, hl, hlz⟩ := Texts_same2 sig hs q1 b1 i1 s1
  obtain ⟨P, q3, i3, b3, p3, r3, s3, hPl, hPz⟩ := Texts_same2 sig hs q2 b2 i2 s2
  refine ⟨i, l, P, q1, q2, q3, b1, b2, b3, p1, p2, p3, hi.2, hPz, ?_⟩
  unfold abugidaref04_Check.f
  refine Ev.bind (a := (sig, 0, false)) (Ev.now _) ?_
  refine Ev.bind r1 ?_
  refine Ev.bind r2 ?_
  refine Ev.bind r3 ?_
  refine Ev.bind (a := (b3, sig, i3, b3)) (Ev.now _) ?_
  have hj : Ev (fun k => abugidaref04_Check.j0 k pub msg i l P true) false := Ev.step (fun k => abugidaref04_Check.j0.eq_2 ..) (evI rfl (Ev.now _))
  cases b3 with
  | true => exact evI rfl hj
  | false =>
    refine evN Bool.false_ne_true ?_
    obtain ⟨n, rfl, hn, rfl⟩ := s3.2 rfl
    have hleft : abugidaref02_Reader_Left.f sig (n : Int) false = some (((sig.size - n : Nat) : Int), sig, (n : Int), false) := Left_ref sig n hn (by omega)
    refine Ev.bind (a := (((sig.size - n : Nat) : Int), sig, (n : Int), false)) (Ev.congr (fun _ => hleft) (Ev.now _)) ?_
    have hq := size_ext sig n hn
    by_cases h0 : sig.size - n = 0
    case neg =>
      rw [show chkF pub msg i l P (sig.extract n sig.size) false = false from if_neg (fun h => h0 (by rw [← hq]; exact h.2.1))]
      exact evI (by show ((sig.size - n : Nat) : Int) > 0; omega) hj
    case pos =>
      refine evN (by show ¬ ((sig.size - n : Nat) : Int) > 0; omega) ?_
      by_cases h18 : l.length = 18
      case neg =>
        rw [show chkF pub msg i l P (sig.extract n sig.size) false = false from if_neg (fun h => h18 h.2.2.1), show ((l.length : Int) != 18) = true by simp; omega]
        exact hj
      case pos =>
        rw [show ((l.length : Int) != 18) = false by simp; omega]
        refine Ev.step (fun k => abugidaref04_Check.j0.eq_2 ..) ?_
        refine evN Bool.false_ne_true ?_
        refine Ev.bind (Digits_ev msg hm) ?_
        by_cases hall : ∀ s ∈ l, s.size = 8
        · rw [show chkF pub msg i l P (sig.extract n sig.size) false = VerifyF pub (OfB (ends2 l (OfB msg) 18)) i P from if_pos ⟨rfl, by rw [hq]; exact h0, h18, hall⟩]
          refine Check_loop_yes pub i l P (OfB msg) h18 hi.2 (fun s h => Nat.le_trans (hPz s h) (by omega)) (fun j hj => ?_) 18 0 (by omega) (by omega)
          rw [List.getD_eq_getElem?_getD, List.getElem?_eq_getElem (by omega)]
          exact hall _ (List.getElem_mem _)
        · rw [show chkF pub msg i l P (sig.extract n sig.size) false = false from if_neg (fun h => hall h.2.2.2)]
          refine Check_loop_no pub i l P (OfB msg) h18 hlz 18 0 (by omega) (by omega) (fun j h => absurd h (Nat.not_lt_zero _)) ?_
          apply Classical.byContradiction
          intro hno
          refine hall fun s hs => ?_
          obtain ⟨j, hj, rfl⟩ := List.getElem_of_mem hs
          apply Classical.byContradiction
          intro h8
          exact hno ⟨j, Nat.zero_le _, by omega, by rw [List.getD_eq_getElem?_getD, List.getElem?_eq_getElem hj]; exact h8⟩
end Go.Proofs.Ytoolionhheiihaa.Sg

/- Signatures are read again, and accepted; the chapter's examples. -/
set_option linter.unusedVariables false
set_option linter.unusedSimpArgs false
namespace Go.Proofs.Ytoolionhheiihaa.Sg
open Go.RowKit Go.Proofs.YtoolionhheiihaaW.PrintWords Go.Proofs.YtoolionhheiihaaW.PrintLast Go.Proofs.YtoolionhheiihaaW.PrintMore Go.Proofs.Ytoolionhheiihaa.Dg Go.Proofs.Ytoolionhheiihaa.Gv Go.Proofs.Ytoolionhheiihaa.Pb Go.Proofs.Ytoolionhheiihaa.Gw Go.Proofs.Ytoolionhheiihaa.Pure
theorem lnk_lnk (s : ByteArray) (a : Nat) : ∀ n, lnk (lnk s a) n = lnk s (a + n)
  | 0 => rfl
  | n + 1 => by rw [lnk, lnk_lnk s a n]; rfl
theorem sgs_get (seed : ByteArray) (i : Nat) (b : ByteArray) (n c : Nat) (h : c < n) : (sgs seed i b n).getD c ⟨#[]⟩ = lnk (startB seed i c) (dgt b c).toNat := by
  simp [sgs, h]
/-- Some links of n chains. -/
def endsG (st : Nat → ByteArray) (f : Nat → Nat) : Nat → ByteArray
  | 0 => ⟨#[]⟩
  | n + 1 => endsG st f n ++ lnk (st n) (f n)
theorem ends2_sgs (seed : ByteArray) (i : Nat) (b b' : ByteArray) : ∀ n, n ≤ 18 → ends2 (sgs seed i b 18) b' n = endsG (startB seed i) (fun c => (dgt b c).toNat + (15 - dgt b' c).toNat) n
  | 0, _ => rfl
  | n + 1, h => by rw [ends2, ends2_sgs seed i b b' n (by omega), sgs_get seed i b 18 n (by omega), lnk_lnk]; rfl
theorem endsG_ends (st : Nat → ByteArray) (f : Nat → Nat) : ∀ n, (∀ c, c < n → f c = 15) → endsG st f n = ends st n
  | 0, _ => rfl
  | n + 1, h => by rw [endsG, endsG_ends st f n (fun c hc => h c (by omega)), h n (by omega)]; rfl
theorem ends2_right (seed : ByteArray) (i : Nat) (b : ByteArray) : ends2 (sgs seed i b 18) b 18 = ends (startB seed i) 18 := by
  rw [ends2_sgs seed i b b 18 (Nat.le_refl _)]
  exact endsG_ends _ _ 18 (fun c _ => by have := dgt_range b c; omega)
theorem lvs_get (seed : ByteArray) (n i : Nat) (h : i < n) : (lvs seed n)[i]? = some (leafB seed i) := by simp [lvs, h]
theorem RootF_size (l : List ByteArray) : (RootF l).size = 8 := PureD.RootB_size _ _
theorem verify_right (l : List ByteArray) (hl : l.length ≤ 20) (i : Nat) (s : ByteArray) (h : l[i]? = some s) : VerifyF (RootF l) s i (ProofL l (hof l.length) i) = true := by
  have h5 := PureD.hof_small (n := l.length) (by omega)
  have hi : i < l.length := (List.getElem?_eq_some_iff.1 h).1
  have hu := (up_hof l.length).2.1
  have e : ((i : Int) / 2 ^ hof l.length) = ((i / 2 ^ hof l.length : Nat) : Int) := by simp
  unfold VerifyF
  rw [PureD.ProofL_len, if_pos ⟨RootF_size l, by omega, by omega, by rw [e, Nat.div_eq_of_lt (by omega)]; rfl⟩, PureD.vf_top l i s h]
  exact decide_eq_true rfl
theorem verify_own (seed : ByteArray) (n i : Nat) (hn : n ≤ 16) (hi : i < n) (pub : ByteArray) : VerifyF pub (leafB seed i) i (ProofF (lvs seed n) i) = decide (pub = PubB seed n) := by
  have hv := verify_right (lvs seed n) (by rw [lvs_length]; omega) i (leafB seed i) (lvs_get seed n i hi)
  rw [PureD.ProofF_in _ _ (by rw [lvs_length]; exact hi)]
  unfold VerifyF at hv ⊢
  by_cases hc : (RootF (lvs seed n)).size = 8 ∧ (ProofL (lvs seed n) (hof (lvs seed n).length) i).length ≤ 20 ∧ 0 ≤ (i : Int) ∧ (i : Int) / 2 ^ (ProofL (lvs seed n) (hof (lvs seed n).length) i).length = 0
  · rw [if_pos hc] at hv
    have hv := of_decide_eq_true hv
    by_cases h8 : pub.size = 8
    · rw [if_pos ⟨h8, hc.2⟩, ← hv]; rfl
    · rw [if_neg (fun h => h8 h.1)]
      refine (decide_eq_false (fun h => h8 ?_)).symm
      rw [h]; exact RootF_size _
  · rw [if_neg hc] at hv; cases hv
theorem chk_own (seed : ByteArray) (n i : Nat) (hn : n ≤ 16) (hi : i < n) (pub msg : ByteArray) : chkF pub msg i (sgs seed i (OfB msg) 18) (ProofF (lvs seed n) i) ⟨#[]⟩ false = decide (pub = PubB seed n) := by
  rw [chkF, if_pos ⟨rfl, rfl, sgs_length _ _ _ _, sgs_size _ _ _ _⟩, ends2_right]
  exact verify_own seed n i hn hi pub
/-- A signature, with something behind it, is read again. -/
theorem sig_read (i : Nat) (L P : List ByteArray) (rest : ByteArray) (hi : i ≤ 1000000) (hL : L.length ≤ 100) (hP : P.length ≤ 100) (hLs : ∀ s ∈ L, s.size ≤ 100) (hPs : ∀ s ∈ P, s.size ≤ 100) (hr : rest.size ≤ 10000) :
    Ev (fun k => wire_Reader_Int.f k (((IntB i ++ TextsB L) ++ TextsB P) ++ rest) false) ((i : Int), TextsB L ++ (TextsB P ++ rest), false) ∧ Ev (fun k => wire_Reader_Texts.f k (TextsB L ++ (TextsB P ++ rest)) false) (L, TextsB P ++ rest, false) ∧
    Ev (fun k => wire_Reader_Texts.f k (TextsB P ++ rest) false) (P, rest, false) := by
  have zp := Pure.TextsB_size P (by omega) (fun s h => Nat.le_trans (hPs s h) (by omega))
  have e : ((IntB i ++ TextsB L) ++ TextsB P) ++ rest = IntB i ++ (TextsB L ++ (TextsB P ++ rest)) := by simp only [ByteArray.append_assoc]
  rw [e]
  refine ⟨Reader_Int_ev i (by omega) (by omega) _, Texts_ev L _ hL (fun s h => Nat.le_trans (hLs s h) (by omega)) ?_, Texts_ev P _ hP (fun s h => Nat.le_trans (hPs s h) (by omega)) (by omega)⟩
  rw [ByteArray.size_append]
  omega
theorem Ev.and {α β : Type} {g : Nat → Option α} {f : Nat → Option β} {a : α} {b : β} (h1 : Ev g a) (h2 : Ev f b) : ∃ K, ∀ k, K ≤ k → g k = some a ∧ f k = some b := by
  obtain ⟨K1, h1⟩ := h1
  obtain ⟨K2, h2⟩ := h2
  exact ⟨max K1 K2, fun k hk => ⟨h1 k (by omega), h2 k (by omega)⟩⟩
theorem Ev.three {α β γ : Type} {g : Nat → Option α} {f : Nat → Option β} {e : Nat → Option γ} {a : α} {b : β} {c : γ} (h1 : Ev g a) (h2 : Ev f b) (h3 : Ev e c) : ∃ k, g k = some a ∧ f k = some b ∧ e k = some c := by
  obtain ⟨K, h⟩ := Ev.and h1 h2
  obtain ⟨K2, h3⟩ := h3
  exact ⟨max K K2, (h _ (by omega)).1, (h _ (by omega)).2, h3 _ (by omega)⟩
/-- sign.Check beside the reference, on any strings. -/
theorem Check_calls (pub msg sig : ByteArray) (hs : sig.size ≤ 1000) (hm : msg.size ≤ 9000) : ∃ r : Bool, (∀ w : World, Calls Try.prog 18 #[.string pub, .string msg, .string sig] w fun e w' => e = .returned (.bool r) ∧ Below w.heap.size w w') ∧ Ev (fun k => abugidaref04_Check.f k pub msg sig) r := by
  obtain ⟨i, l, P, q1, q2, q3, b1, b2, b3, h1, h2, h3, hi, hP, hr⟩ := Check_same pub msg sig hs hm
  obtain ⟨k, k1, k2, k3⟩ := Ev.three h1 h2 h3
  exact ⟨_, fun w => Check_any k pub msg sig i l P q1 q2 q3 b1 b2 b3 w (by omega) k1 k2 k3 hi (fun s h => Nat.le_trans (hP s h) (by omega)), hr⟩
/-- sign.Check of what sign.Sign answers, with something behind it. -/
theorem Check_sig (pub msg seed m2 rest : ByteArray) (n i : Nat) (h1 : 1 ≤ n) (hn : n ≤ 16) (hi : i < n) (hm : msg.size ≤ 9000) (hr : rest.size ≤ 10000) (w : World) :
    Calls Try.prog 18 #[.string pub, .string msg, .string (SigB seed n i m2 ++ rest)] w fun e w' => e = .returned (.bool (chkF pub msg i (sgs seed i (OfB m2) 18) (ProofF (lvs seed n) i) rest false)) ∧ Below w.heap.size w w' := by
  have hP := ProofF_lvs seed n h1 hn i
  obtain ⟨e1, e2, e3⟩ := sig_read i (sgs seed i (OfB m2) 18) (ProofF (lvs seed n) i) rest (by omega) (by rw [sgs_length]; omega) (by omega) (fun s h => by rw [sgs_size _ _ _ _ s h]; omega) (fun s h => Nat.le_trans (hP.2 s h) (by omega)) hr
  obtain ⟨k, k1, k2, k3⟩ := Ev.three e1 e2 e3
  exact Check_any k pub msg _ i _ _ _ _ _ _ _ _ w (by omega) k1 k2 k3 (by omega) (fun s h => Nat.le_trans (hP.2 s h) (by omega))
end Go.Proofs.Ytoolionhheiihaa.Sg

/- The chapter's examples of signatures, in numbers. -/
set_option linter.unusedVariables false
set_option linter.unusedSimpArgs false
namespace Go.Proofs.Ytoolionhheiihaa.Sg
open Go.RowKit Go.Proofs.YtoolionhheiihaaW.PrintWords Go.Proofs.YtoolionhheiihaaW.PrintLast Go.Proofs.YtoolionhheiihaaW.PrintMore Go.Proofs.Ytoolionhheiihaa.Dg Go.Proofs.Ytoolionhheiihaa.Gv Go.Proofs.Ytoolionhheiihaa.Pb Go.Proofs.Ytoolionhheiihaa.Gw Go.Proofs.Ytoolionhheiihaa.Pure
def sS : ByteArray := ⟨#[115]⟩
def sT : ByteArray := ⟨#[116]⟩
def sM : ByteArray := ⟨#[109]⟩
def sW : ByteArray := ⟨#[110]⟩
theorem lvs4 (s : ByteArray) : lvs s 4 = [leafB s 0, leafB s 1, leafB s 2, leafB s 3] := rfl
theorem hof4 : hof 4 = 2 := by decide +kernel
theorem lev41 (a b c d : ByteArray) : lev (fill [a, b, c, d] (2 ^ 2)) 1 = [PairB a b, PairB c d] := by
  simp [lev, above, fill, List.range_succ]
theorem lev42 (a b c d : ByteArray) : lev (fill [a, b, c, d] (2 ^ 2)) 2 = [PairB (PairB a b) (PairB c d)] := by
  show above (lev (fill [a, b, c, d] (2 ^ 2)) 1) = _
  rw [lev41]
  simp [above]
theorem root4 (a b c d : ByteArray) : RootF [a, b, c, d] = RootB 2 (PairB (PairB a b) (PairB c d)) := by
  unfold RootF
  rw [show [a, b, c, d].length = 4 from rfl, hof4, lev42]
  simp
theorem prf4 (a b c d : ByteArray) (i : Nat) : ProofL [a, b, c, d] 2 i = [[a, b, c, d].getD (nb i) ⟨#[]⟩, [PairB a b, PairB c d].getD (nb (i / 2)) ⟨#[]⟩] := by
  have e : List.range 2 = [0, 1] := rfl
  rw [ProofL, e]
  simp only [List.map_cons, List.map_nil, lev41]
  simp [lev, fill]
theorem proof40 (a b c d : ByteArray) : ProofF [a, b, c, d] 0 = [b, PairB c d] := by
  rw [show (0 : Int) = ((0 : Nat) : Int) from rfl, PureD.ProofF_in _ _ (by simp), show [a, b, c, d].length = 4 from rfl, hof4, prf4]
  rfl
theorem proof43 (a b c d : ByteArray) : ProofF [a, b, c, d] 3 = [c, PairB a b] := by
  rw [show (3 : Int) = ((3 : Nat) : Int) from rfl, PureD.ProofF_in _ _ (by simp), show [a, b, c, d].length = 4 from rfl, hof4, prf4]
  rfl
def nodeN (a b : List Nat) : List Nat := OfN ([1] ++ [0, 0, 0, 8] ++ a ++ b)
theorem PairB_8 (a b : ByteArray) : (PairB a b).size = 8 := OfB_size _
theorem bN_pair (a b : ByteArray) (h : a.size = 8) : bN (PairB a b) = nodeN (bN a) (bN b) := by
  have e : bN (n4 8) = [0, 0, 0, 8] := by decide +kernel
  rw [PairB, bN_Of, bN_append, bN_append, bN_append, h, e]
  rfl
def rootN (t : List Nat) : List Nat := OfN ([2, 2] ++ t)
theorem bN_root (t : ByteArray) : bN (RootB 2 t) = rootN (bN t) := by
  rw [RootB, bN_Of, bN_append, bN_append]
  rfl
theorem leaf_8 (s : ByteArray) (i : Nat) : (leafB s i).size = 8 := OfB_size _
def pubN (s : List Nat) : List Nat := rootN (nodeN (nodeN (leafN s 0) (leafN s 1)) (nodeN (leafN s 2) (leafN s 3)))
theorem bN_pub (s : ByteArray) (hs : s.size < 64) : bN (PubB s 4) = pubN (bN s) := by
  rw [PubB, lvs4, root4, bN_root, bN_pair _ _ (PairB_8 _ _), bN_pair _ _ (leaf_8 _ _), bN_pair _ _ (leaf_8 _ _), bN_leaf s 0 hs (by omega), bN_leaf s 1 hs (by omega), bN_leaf s 2 hs (by omega), bN_leaf s 3 hs (by omega)]
  rfl
theorem pub_ne : PubB sS 4 ≠ PubB sT 4 := by
  intro h
  have h := congrArg bN h
  rw [bN_pub sS (by decide), bN_pub sT (by decide)] at h
  revert h
  decide +kernel
def endsGN (st : Nat → List Nat) (f : Nat → Nat) : Nat → List Nat
  | 0 => []
  | n + 1 => endsGN st f n ++ lnkN (st n) (f n)
theorem bN_endsG (s : ByteArray) (no : Nat) (f : Nat → Nat) (hs : s.size < 64) (h1 : no < 64) : ∀ n, n ≤ 18 → bN (endsG (startB s no) f n) = endsGN (startN (bN s) no) f n
  | 0, _ => rfl
  | n + 1, h => by rw [endsG, bN_append, bN_endsG s no f hs h1 n (by omega), bN_lnk, bN_start s no n hs h1 (by omega)]; rfl
/-- How far the links of a signature of m are led for n. -/
def fM (c : Nat) : Nat := (dgt (OfB sM) c).toNat + (15 - dgt (OfB sW) c).toNat
/-- The leaf that the links of a signature of m lead to, for n. -/
def lfN (i : Nat) : List Nat := OfN (endsGN (startN [115] i) fM 18)
theorem bN_lf (i : Nat) (h : i < 64) : bN (OfB (ends2 (sgs sS i (OfB sM) 18) (OfB sW) 18)) = lfN i := by
  rw [ends2_sgs sS i _ _ 18 (Nat.le_refl _), bN_Of]
  have := bN_endsG sS i fM (by decide) h 18 (Nat.le_refl _)
  unfold fM at this
  rw [this]
  rfl
theorem other0 : pubN [115] ≠ rootN (nodeN (nodeN (lfN 0) (leafN [115] 1)) (nodeN (leafN [115] 2) (leafN [115] 3))) := by decide +kernel
theorem other3 : pubN [115] ≠ rootN (nodeN (nodeN (leafN [115] 0) (leafN [115] 1)) (nodeN (leafN [115] 2) (lfN 3))) := by decide +kernel
theorem ends2_8 (i : Nat) : (OfB (ends2 (sgs sS i (OfB sM) 18) (OfB sW) 18)).size = 8 := OfB_size _
theorem chk_other0 : chkF (PubB sS 4) sW 0 (sgs sS 0 (OfB sM) 18) (ProofF (lvs sS 4) 0) ⟨#[]⟩ false = false := by
  rw [chkF, if_pos ⟨rfl, rfl, sgs_length _ _ _ _, sgs_size _ _ _ _⟩, lvs4, proof40]
  have e8 := ends2_8 0
  have eN := bN_lf 0 (by omega)
  generalize OfB (ends2 (sgs sS 0 (OfB sM) 18) (OfB sW) 18) = x at *
  unfold VerifyF
  split
  · refine decide_eq_false fun h => ?_
    rw [show vf x 0 [leafB sS 1, PairB (leafB sS 2) (leafB sS 3)] = (PairB (PairB x (leafB sS 1)) (PairB (leafB sS 2) (leafB sS 3)), 0) from rfl] at h
    have h := congrArg bN h
    rw [bN_pub sS (by decide), show (([leafB sS 1, PairB (leafB sS 2) (leafB sS 3)].length : Nat) : Int) = 2 from rfl, bN_root, bN_pair _ _ (PairB_8 _ _), bN_pair _ _ e8, bN_pair _ _ (leaf_8 _ _), eN, bN_leaf sS 1 (by decide) (by omega), bN_leaf sS 2 (by decide) (by omega), bN_leaf sS 3 (by decide) (by omega)] at h
    exact other0 h
  · rfl
theorem chk_other3 : chkF (PubB sS 4) sW 3 (sgs sS 3 (OfB sM) 18) (ProofF (lvs sS 4) 3) ⟨#[]⟩ false = false := by
  rw [chkF, if_pos ⟨rfl, rfl, sgs_length _ _ _ _, sgs_size _ _ _ _⟩, lvs4, proof43]
  have e8 := ends2_8 3
  have eN := bN_lf 3 (by omega)
  generalize OfB (ends2 (sgs sS 3 (OfB sM) 18) (OfB sW) 18) = x at *
  unfold VerifyF
  split
  · refine decide_eq_false fun h => ?_
    rw [show vf x 3 [leafB sS 2, PairB (leafB sS 0) (leafB sS 1)] = (PairB (PairB (leafB sS 0) (leafB sS 1)) (PairB (leafB sS 2) x), 0) from rfl] at h
    have h := congrArg bN h
    rw [bN_pub sS (by decide), show (([leafB sS 2, PairB (leafB sS 0) (leafB sS 1)].length : Nat) : Int) = 2 from rfl, bN_root, bN_pair _ _ (PairB_8 _ _), bN_pair _ _ (leaf_8 _ _), bN_pair _ _ (leaf_8 _ _), eN, bN_leaf sS 0 (by decide) (by omega), bN_leaf sS 1 (by decide) (by omega), bN_leaf sS 2 (by decide) (by omega)] at h
    exact other3 h
  · rfl
theorem chk_more (pub msg : ByteArray) (i : Int) (l P : List ByteArray) (q : ByteArray) (h : q.size ≠ 0) : chkF pub msg i l P q false = false := if_neg fun h' => h h'.2.1
theorem digits_e (k : Nat) (h : k < 18) : dgt (OfB ⟨#[]⟩) k = rd [0, 0, 0, 0, 0, 0, 0, 7, 0, 0, 0, 0, 0, 0, 0, 11, 13, 14] k := by
  have e : (List.range 18).map (dgt (OfB ⟨#[]⟩)) = [0, 0, 0, 0, 0, 0, 0, 7, 0, 0, 0, 0, 0, 0, 0, 11, 13, 14] := by decide +kernel
  have := congrArg (fun l => rd l (k : Int)) e
  rw [← this]
  simp [rd, h]
theorem proof10 (s : ByteArray) : ProofF (lvs s 1) 0 = [] := by
  have h1 : hof 1 = 0 := rfl
  rw [show (0 : Int) = ((0 : Nat) : Int) from rfl, PureD.ProofF_in _ _ (by simp [lvs]), lvs_length, h1]
  rfl
/-- Without its first byte a signature is refused. -/
theorem Check_cut (pub msg seed m2 : ByteArray) (n i : Nat) (h1 : 1 ≤ n) (hn : n ≤ 16) (hi : i < n) (hm : msg.size ≤ 9000) (w : World) :
    Calls Try.prog 18 #[.string pub, .string msg, .string ((SigB seed n i m2).extract 1 (SigB seed n i m2).size)] w fun e w' => e = .returned (.bool false) ∧ Below w.heap.size w w' := by
  have hP := ProofF_lvs seed n h1 hn i
  have hi1 : (IntB (i : Int)).size = 1 := by rw [← bN_length, bN_int i (by omega)]; rfl
  have eS : SigB seed n i m2 = IntB i ++ (TextsB (sgs seed i (OfB m2) 18) ++ TextsB (ProofF (lvs seed n) i)) := by rw [SigB, ByteArray.append_assoc]
  have ex : (SigB seed n i m2).extract 1 (SigB seed n i m2).size = TextsB (sgs seed i (OfB m2) 18) ++ TextsB (ProofF (lvs seed n) i) := by
    rw [eS]
    have := extract_app (IntB (i : Int)) (TextsB (sgs seed i (OfB m2) 18) ++ TextsB (ProofF (lvs seed n) i))
    rwa [hi1] at this
  rw [ex]
  have hL18 := sgs_length seed i (OfB m2) 18
  have hL8 := sgs_size seed i (OfB m2) 18
  have zl := TextsB_size (sgs seed i (OfB m2) 18) (by omega) (fun s h => Nat.le_of_eq (hL8 s h))
  have zp := TextsB_size (ProofF (lvs seed n) i) (by omega) hP.2
  generalize ProofF (lvs seed n) i = P at *
  generalize sgs seed i (OfB m2) 18 = L at *
  obtain ⟨x, L', rfl⟩ : ∃ x L', L = x :: L' := by cases L with | nil => simp at hL18 | cons x L' => exact ⟨x, L', rfl⟩
  have hx8 := hL8 x (by simp)
  obtain ⟨v, l, Q, q1, q2, q3, b1, b2, b3, e1, e2, e3, hv, hQ, -⟩ := Check_same pub msg (TextsB (x :: L') ++ TextsB P) (by rw [ByteArray.size_append]; simp at hL18 zl; omega) hm
  have eT : TextsB (x :: L') ++ TextsB P = IntB ((x :: L').length : Nat) ++ (IntB (8 : Nat) ++ (x ++ (join TextB L' ByteArray.empty ++ TextsB P))) := by
    have h2 := join_cons TextB (x :: L') (IntB ((x :: L').length : Nat))
    have h3 := join_cons TextB L' (ByteArray.empty ++ TextB x)
    rw [TextsB, h2, show join TextB (x :: L') ByteArray.empty = join TextB L' (ByteArray.empty ++ TextB x) from rfl, h3, TextB, hx8]
    simp only [ByteArray.append_assoc, ByteArray.empty_append]
  have f1 : Ev (fun k => wire_Reader_Int.f k (TextsB (x :: L') ++ TextsB P) false) (((x :: L').length : Nat), IntB (8 : Nat) ++ (x ++ (join TextB L' ByteArray.empty ++ TextsB P)), false) := by
    rw [eT]
    exact Reader_Int_ev _ (by omega) (by rw [hL18]; omega) _
  have hu := Ev.unique e1 f1
  simp only [Prod.mk.injEq] at hu
  obtain ⟨rfl, rfl, rfl⟩ := hu
  have zz : (TextsB (x :: L') ++ TextsB P).size ≤ 1000 := by rw [ByteArray.size_append]; simp at hL18 zl; omega
  rw [eT] at zz
  simp only [ByteArray.size_append] at zz
  have f2 := length_ev 8 (x ++ (join TextB L' ByteArray.empty ++ TextsB P)) (by simp only [ByteArray.size_append]; omega) (by simp only [ByteArray.size_append]; omega)
  obtain ⟨k, k1, k2, k3⟩ := Ev.three e1 e2 e3
  have hl : l.length ≤ 8 := by
    obtain ⟨K2, e2⟩ := e2
    obtain ⟨K3, f2⟩ := f2
    have g2 := e2 (max K2 K3) (by omega)
    have g3 := f2 (max K2 K3) (by omega)
    dsimp only at g2 g3
    unfold wire_Reader_Texts.f at g2
    rw [g3] at g2
    simp only [Option.bind_some] at g2
    split at g2
    · have := readL_len _ _ _ _ _ _ _ _ _ g2
      simpa using this
    · cases g2
  refine (Check_any k pub msg _ _ l Q _ q2 q3 _ b2 b3 w (by omega) k1 k2 k3 hv (fun s h => Nat.le_trans (hQ s h) (by omega))).mono ?_
  rintro e w' ⟨rfl, hb⟩
  exact ⟨by rw [chkF, if_neg (fun h => by have := h.2.2.1; omega)], hb⟩
end Go.Proofs.Ytoolionhheiihaa.Sg

