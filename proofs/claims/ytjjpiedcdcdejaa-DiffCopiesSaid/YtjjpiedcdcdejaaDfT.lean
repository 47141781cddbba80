/- The law DiffLong, walked. -/
import Derived.Test.YtjjpiedcdcdejaaDfR
set_option linter.unusedVariables false
set_option linter.unusedSimpArgs false
namespace Go.Proofs.Ytjjpiedcdcdejaa.Pure
open Go.RowKit Go.Proofs.Ytjjpiedcdcdejaa.Pb Go.Proofs.YtjjpiedcdcdejaaW.PrintWords Go.Proofs.YtjjpiedcdcdejaaW.PrintLast Go.Proofs.YtjjpiedcdcdejaaW.PrintMore Go.Proofs.Ytjjpiedcdcdejaa.Gw
open Go.Proofs.Ytjjpiedcdcdejaa.Df (diff_Make.f diff_Make.calls diff_Apply.f diff_Apply.calls Pcs ck applyF applyF_many applyF_ok chkI glueI base6 outOf)
attribute [local go_sem] max2_int min2_int max_two min_two
/-- n bytes that are alike. -/
def rep (m n : Nat) : ByteArray := nums (List.replicate n m)
theorem rep_size (m n : Nat) : (rep m n).size = n := by rw [rep, nums_size, List.length_replicate]
theorem rep_add (m j k : Nat) : rep m (j + k) = rep m j ++ rep m k := by rw [rep, ← List.replicate_append_replicate, nums_append]; rfl
theorem rep_take (m j n : Nat) (h : j ≤ n) : (rep m n).extract 0 j = rep m j := by
  obtain ⟨k, rfl⟩ : ∃ k, n = j + k := ⟨n - j, by omega⟩
  rw [rep_add]
  have := extract_left (rep m j) (rep m k)
  rwa [rep_size] at this
theorem rep_nums (m n : Nat) : strOfNums (List.replicate n (m : Int)) = rep m n := by
  rw [rep, nums, List.map_replicate]
  rfl
theorem Pcs_nil (t : ByteArray) : Pcs ⟨#[]⟩ t = ([], [t]) := by
  have h := Pcs_seg ⟨#[]⟩ t
  generalize Pcs ⟨#[]⟩ t = p at h
  obtain ⟨cs, ts⟩ := p
  dsimp only at h
  generalize hf : (0 : Nat) = fr at h
  cases h with
  | last _ _ _ => subst hf; rw [ext_all]
  | copy _ p f n cs ts hf hN h4 hfs => exact absurd hfs (by show ¬ f < 0; omega)
theorem small_one (t : ByteArray) (h : t.size ≤ 70000) : Small [] [t] := ⟨by decide, by show 1 ≤ 1000; omega, fun x hx => (List.not_mem_nil hx).elim, fun x hx => by rw [List.mem_singleton.1 hx]; exact h⟩
theorem make_big (s t : ByteArray) (h : 65536 < t.size) (w : World) : Calls Try.prog 12 #[.string s, .string t] w fun e w' => e = .returned (.string ⟨#[]⟩) ∧ Below w.heap.size w w' :=
  diff_Make.calls 0 s t _ w (by unfold diff_Make.f; rw [if_neg (by omega)])
theorem make_none (s t : ByteArray) (h : s.size = 0 ∨ 65536 < s.size) (ht : t.size ≤ 65536) (w : World) : Calls Try.prog 12 #[.string s, .string t] w fun e w' => e = .returned (.string (codeB [] [t])) ∧ Below w.heap.size w w' := by
  have hb : base6 s = ⟨#[]⟩ := by
    unfold base6
    rcases h with h | h
    · rw [if_pos (by omega)]
      apply ext_bt
      · exact h
      · intro j hj; omega
    · rw [if_neg (by omega)]
  have hS := small_one t (by omega)
  have hE : Ev (fun k => diff_Make.f k s t) (codeB [] [t]) := by
    unfold diff_Make.f
    refine evI ht ?_
    rw [hb, Pcs_nil]
    refine Ev.bind (wire_Ints_ev _ hS.c hS.o) ?_
    refine Ev.bind (wire_Texts_ev _ hS.t hS.z) ?_
    have := codeB_size _ _ hS.c hS.t hS.o hS.z
    rw [codeB, ByteArray.size_append] at this
    refine evI (by show (IntsB []).size + (TextsB [t]).size ≤ 1000000000; omega) ?_
    exact Ev.now _
  obtain ⟨k, hk⟩ := hE.rounds
  exact diff_Make.calls k s t _ w hk
def halfs (K N : Nat) : List Int := [0, (K : Int), 0, (N : Int) - (K : Int)]
def e3 : List ByteArray := [⟨#[]⟩, ⟨#[]⟩, ⟨#[]⟩]
theorem halfs_small (K N : Nat) (h : N ≤ 100000) (hK : K ≤ 100000) : Small (halfs K N) e3 := by
  refine ⟨by show 4 ≤ 1000; omega, by show 3 ≤ 1000; omega, fun x hx => ?_, fun t ht => ?_⟩
  · have : x = 0 ∨ x = (K : Int) ∨ x = 0 ∨ x = (N : Int) - (K : Int) := by simpa [halfs] using hx
    omega
  · have : t = ⟨#[]⟩ := by simpa [e3] using ht
    rw [this]; decide
theorem eE (a : ByteArray) : a ++ ⟨#[]⟩ = a := by apply ByteArray.ext; simp
theorem eE2 (a : ByteArray) : (⟨#[]⟩ : ByteArray) ++ a = a := by apply ByteArray.ext; simp
theorem eZ : ((⟨#[]⟩ : ByteArray).size : Int) = 0 := rfl
theorem chkL_two (s : ByteArray) (f n f2 n2 m : Int) (t t2 : ByteArray) (h : ¬ outOf s f n) (h2 : ¬ outOf s f2 n2) : chkL s [f, n, f2, n2] [t, t2] m = some (mn (mn (m + n + (t.size : Int)) 65537 + n2 + (t2.size : Int)) 65537) := by
  rw [chkL, if_neg h, chkL, if_neg h2]
  rfl
theorem glueL_two (s : ByteArray) (f n f2 n2 : Int) (o t t2 : ByteArray) : glueL s [f, n, f2, n2] [t, t2] o = o ++ (s.extract f.toNat s.size).extract 0 n.toNat ++ t ++ (s.extract f2.toNat s.size).extract 0 n2.toNat ++ t2 := by
  rw [glueL, glueL]
  rfl
theorem half_apply (m K N : Nat) (hK : 1 ≤ K) (hKN : K < N) (hK2 : K ≤ 65536) (h1 : N ≤ 66000) : applyF (rep m N) (halfs K N) e3 ⟨#[]⟩ false = if 65536 < N then (⟨#[]⟩, 2) else (rep m N, 0) := by
  have hz := rep_size m N
  have hn : ∀ (f n : Int), 0 ≤ f → 1 ≤ n → f + n ≤ (N : Int) → ¬ outOf (rep m N) f n := fun f n h1 h2 h3 h => by unfold outOf at h; rw [hz] at h; omega
  have hg : ∀ n : Nat, n ≤ N → ((rep m N).extract ((0 : Int)).toNat (rep m N).size).extract 0 n = rep m n := fun n h => by
    rw [show ((0 : Int)).toNat = 0 from rfl, ext_all, rep_take m n N h]
  have hc : chkL (rep m N) (halfs K N) [⟨#[]⟩, ⟨#[]⟩] ((⟨#[]⟩ : ByteArray).size : Int) = some (mn (N : Int) 65537) := by
    unfold halfs
    rw [chkL_two _ _ _ _ _ _ _ _ (hn _ _ (by omega) (by omega) (by omega)) (hn _ _ (by omega) (by omega) (by omega)), eZ]
    congr 1
    unfold mn
    split <;> split <;> omega
  have hgl : glueL (rep m N) (halfs K N) [⟨#[]⟩, ⟨#[]⟩] ⟨#[]⟩ = rep m N := by
    unfold halfs
    rw [glueL_two, show ((K : Int)).toNat = K by omega, show ((N : Int) - (K : Int)).toNat = N - K by omega, hg K (by omega), hg (N - K) (by omega), eE, eE, eE2, ← rep_add, show K + (N - K) = N by omega]
  unfold e3
  rw [applyF_L _ _ _ _ (by show 2 * (2 + 1) = 4 + 2; rfl)]
  unfold applyL
  rw [hc, hgl]
  by_cases h : 65536 < N
  · rw [if_pos h]
    show (if 65536 < mn (N : Int) 65537 then _ else _) = _
    rw [if_pos (by unfold mn; split <;> omega)]
  · rw [if_neg h]
    show (if 65536 < mn (N : Int) 65537 then _ else _) = _
    rw [if_neg (by unfold mn; split <;> omega)]
theorem half_c (m N : Nat) (h0 : 65000 ≤ N) (h1 : N ≤ 66000) (r : ByteArray) (e : Int) (hr : (if 65536 < N then ((⟨#[]⟩ : ByteArray), (2 : Int)) else (rep m N, 0)) = (r, e)) (w : World) :
    Calls Try.prog 16 #[.string (rep m N), .string (codeB (halfs 32768 N) e3)] w fun x w' => x = .returned (.tuple #[.string r, .int .i64 e]) ∧ Below w.heap.size w w' := by
  have h := Apply_code0 (rep m N) _ _ (halfs_small 32768 N (by omega) (by omega)) (by rw [rep_size]; omega)
  rw [half_apply m 32768 N (by omega) (by omega) (by omega) h1, hr] at h
  obtain ⟨k, hk⟩ := h.rounds
  exact diff_Apply.calls k _ _ r e w hk
theorem set_rep (a : Int) (j N : Nat) (h : j < N) : (List.replicate j a ++ List.replicate (N - j) 0).set ((j : Int)).toNat a = List.replicate (j + 1) a ++ List.replicate (N - (j + 1)) 0 := by
  obtain ⟨d, rfl⟩ : ∃ d, N = j + (d + 1) := ⟨N - j - 1, by omega⟩
  rw [show ((j : Int)).toNat = j by omega, show j + (d + 1) - j = d + 1 by omega, show j + (d + 1) - (j + 1) = d by omega, List.replicate_succ, List.replicate_succ']
  simp [List.set_append]
theorem codeB_pos (cs : List Int) (ts : List ByteArray) : 0 < (codeB cs ts).size := by
  have := IntB_pos (cs.length : Int)
  have h2 := join_ge IntB cs (fun x _ => IntB_pos x) (IntB (cs.length : Int))
  rw [codeB, ByteArray.size_append]
  unfold IntsB
  omega
theorem C_one (W : World) (x : ByteArray) (T : TypeId) : Kd.C Kd.string (W.alloc (.cells #[.string x] T)) (some ⟨W.heap.size, 0, none⟩) 1 [x] := by
  have hb := (MapKept.heap_alloc W (.cells #[.string x] T)).1
  refine ⟨rfl, by omega, fun _ => ⟨_, rfl, fun j p hp => ⟨[.string p], rfl, rfl, fun i u hi => ?_⟩⟩⟩
  match i, hi with
  | 0, hi =>
    cases hi
    match j, hp with
    | 0, hp => cases hp; exact ck hb 0 _ rfl
theorem code_1 (t : ByteArray) (ht : t.size ≤ 70000) (A : Option Addr) (c : Nat) (w : World) (h : Kd.C Kd.string w A 1 [t]) (hc : 1 ≤ c) :
    Calls Try.prog 18 #[.slice none 0 0, .slice A 1 c] w fun e w' => e = .returned (.string (codeB [] [t])) ∧ Below w.heap.size w w' :=
  code_c [] [t] (small_one t ht) none 0 A c w (Kd.C_nil _ _) (Nat.le_refl _) h hc
theorem half_d (m N : Nat) (s : ByteArray) (hl : List Int) (te : List ByteArray) (hs : s = rep m N) (h2 : hl = halfs 32768 N) (h3 : te = e3) (h0 : 65000 ≤ N) (h1 : N ≤ 66000) (r : ByteArray) (e : Int) (hr : (if 65536 < N then ((⟨#[]⟩ : ByteArray), (2 : Int)) else (s, 0)) = (r, e)) (w : World) :
    Calls Try.prog 16 #[.string s, .string (codeB hl te)] w fun x w' => x = .returned (.tuple #[.string r, .int .i64 e]) ∧ Below w.heap.size w w' := by
  subst hs h2 h3
  exact half_c m N h0 h1 r e hr w
set_option maxHeartbeats 4000000 in
set_option maxRecDepth 100000 in
theorem diffLong_walk (w : World) (m : Nat) (a b n : Int) (ha : a = (m : Int)) (hn : -128 ≤ n ∧ n ≤ 127) :
    Calls Try.prog 9 #[.int .u8 a, .int .u8 b, .int .i8 n] w fun e w' => e = .returned (.bool true) ∧ Below w.heap.size w w' := by
  obtain ⟨N, hN, hN0, hN1⟩ : ∃ N : Nat, (65536 + n.tmod 4 : Int) = (N : Int) ∧ 65533 ≤ N ∧ N ≤ 65539 := by
    have h1 : -3 ≤ n.tmod 4 ∧ n.tmod 4 ≤ 3 := by
      have h2 := Int.tmod_lt_of_pos n (show (0 : Int) < 4 by omega)
      have h3 := Int.lt_tmod_of_pos n (show (0 : Int) < 4 by omega)
      omega
    exact ⟨(65536 + n.tmod 4).toNat, by omega, by omega, by omega⟩
  have n1 : wrap64 n = n := w64 (by omega) (by omega)
  have n2 : wrap64 (65536 + n.tmod 4) = (N : Int) := by rw [hN]; exact w64 (by omega) (by omega)
  have n3 : IntKind.i64.wrap (65536 + n.tmod 4) = (N : Int) := (i64_w _).trans n2
  have n4 : (0 ≤ (N : Int)) = True := eq_true (by omega)
  obtain ⟨s, hs⟩ : ∃ s, s = rep m N := ⟨_, rfl⟩
  obtain ⟨s5, hs5⟩ : ∃ s5, s5 = strOfNums [a, a, a, a, b] := ⟨_, rfl⟩
  have z5 : s5.size = 5 := by rw [hs5, strOfNums_size]; rfl
  have zs : s.size = N := by rw [hs, rep_size]
  obtain ⟨hl, hhl⟩ : ∃ l : List Int, l = [0, 32768, 0, wrap64 ((s.size : Int) - 32768)] := ⟨_, rfl⟩
  have hh2 : hl = halfs 32768 N := by rw [hhl, zs, w64 (by omega) (by omega)]; rfl
  obtain ⟨te, hte⟩ : ∃ l : List ByteArray, l = [⟨#[]⟩, ⟨#[]⟩, ⟨#[]⟩] := ⟨_, rfl⟩
  obtain ⟨l1, hl1⟩ : ∃ l : List ByteArray, l = [s] := ⟨_, rfl⟩
  have HSM := Lib.hid (show Small hl te by rw [hh2, hte]; exact halfs_small 32768 N (by omega) (by omega))
  have HE3 := Lib.hid (show te = e3 from hte)
  have HS := Lib.hid hs
  have HS5 := Lib.hid hs5
  have HZ := Lib.hid (show s5.size = 5 ∧ s.size = N ∧ 65533 ≤ N ∧ N ≤ 65539 from ⟨z5, zs, hN0, hN1⟩)
  have HH := Lib.hid hhl
  have HH2 := Lib.hid hh2
  have HE := Lib.hid hte
  have HL1 := Lib.hid hl1
  have HA := Lib.hid ha
  have HB0 := Lib.hid (Below.refl w.heap.size w)
  clear hs hs5 z5 zs hhl hh2 hte hN hN0 hN1 ha hn hl1
  go_enter Try.func9, Try.ntmps9
  go_wp2_with (first
    | (go_at_call 10; with_reducible refine (san_c _).mono ?_; rintro e w1 ⟨rfl, hb1⟩; have HB1 := Lib.hid hb1; clear hb1)
    | ((with_reducible refine gate_dst (N := 21) rfl ?_); (try (refine gate_guard (by rfl) ?_; dsimp only)); refine Kd.R_make (Kd.int .u8) _ 5 rfl (N := 21) rfl 51 _ _ rfl (N : Int) rfl rfl Try.underlying51 (.int .u8 0) 1 info5 rfl (by decide) (by omega) 0 (ok := fun _ => True) (okp := fun _ => True) rfl (fun _ hk => hk) trivial (by omega) (by have := HZ.out; omega) (Below.refl _ _) (Nat.le_refl _) ?_; intro v8 w2 ho_ hb_ hg_ hnew_; clear hg_ hnew_; have HO2 := Lib.hid (Kd.R_lower ho_ HB1.out.size); have HB2 := Lib.hid (HB1.out.trans (hb_.mono HB1.out.size)); clear ho_ hb_))
  have hrep : List.replicate ((N : Int)).toNat (0 : Int) = List.replicate 0 a ++ List.replicate (N - 0) 0 := by rw [show ((N : Int)).toNat = N by omega]; rfl
  have hO2 := HO2.out
  rw [hrep] at hO2
  have hlen : ∀ j, j ≤ N → (List.replicate j a ++ List.replicate (N - j) 0 : List Int).length = N := fun j hj => by simp; omega
  obtain ⟨g8, c8, e8, gb8, -⟩ := Kd.R_form hO2 (by rw [hlen 0 (by omega)]; have := HZ.out; omega)
  rw [hlen 0 (by omega)] at e8
  subst e8
  have HO3 := Lib.hid hO2
  have HG8 := Lib.hid gb8
  have HLN := Lib.hid hlen
  clear hrep hO2 HO2 gb8 hlen
  go_loopg [9] (N + 1) (fun kq v9 w' => ∃ (x : Int) (j : Nat), v9 = .int .i64 x ∧ x = (j : Int) ∧ j + kq = N + 1 ∧ j ≤ N ∧ Below w.heap.size w w' ∧ Kd.R (Kd.int .u8) 5 w' w.heap.size (fun _ => True) (.slice (some ⟨g8, 0, none⟩) N c8) (List.replicate j a ++ List.replicate (N - j) 0))
  case atStart => exact ⟨0, 0, rfl, rfl, by omega, by omega, HB2.out, HO3.out⟩
  case round =>
    clear HO3
    obtain ⟨x, j, rfl, hx, hjk, hjN, hB, hO⟩ := hrel
    cases gk with
    | zero => omega
    | succ k1 =>
      by_cases hlt : j < N
      · have d1 : decide (x < (N : Int)) = true := decide_eq_true (by omega)
        have p13 : 0 ≤ x := by omega
        have q13 : x < (N : Int) := by omega
        obtain ⟨hx13, hf13⟩ := Kd.R_celln 0 hO x p13 q13
        have HP := Kd.R_putg hO x a
        rw [hx, set_rep a j N hlt, ← hx] at HP
        have s1 : (0 ≤ x) = True := eq_true p13
        have s2 : (x < (N : Int)) = True := eq_true (by omega)
        have s3 : decide (0 ≤ x) = true := decide_eq_true p13
        have HPP := Lib.hid HP.1
        have HBj := Lib.hid hB
        have hwx := Lib.hid (show wrap64 (x + 1) = ((j + 1 : Nat) : Int) by have := HZ.out; unfold wrap64; omega)
        have HJ := Lib.hid (show j < N ∧ j + 1 + k1 = N + 1 from ⟨hlt, by omega⟩)
        clear HP hB hO hjk hjN hlt p13 q13 hx
        go_wp2
        go_roundg k1
        case measure => have := HJ.out; omega
        case rel => exact ⟨_, j + 1, rfl, hwx.out, by have := HJ.out; omega, HJ.out.1, below_set HBj.out HG8.out, HPP.out⟩
      · obtain rfl : j = N := by omega
        have d1 : decide (x < (j : Int)) = false := decide_eq_false (by omega)
        have hsr : strOfNums (List.replicate j a ++ List.replicate (j - j) 0) = s := by
          rw [Nat.sub_self, HS.out, ← rep_nums, HA.out]
          simp
        have hcv := own_string (P := Try.prog) Try.underlying51 Try.underlying5 Try.underlying9 (Kd.own_of_R hO)
        rw [hsr] at hcv
        have HB4 := Lib.hid hB
        clear hB hO hjk hjN hlt hx hsr
        have u1 : (100 ≤ (s.size : Int)) = True := eq_true (by have := HZ.out; omega)
        have u2 : (100 ≤ s.size) = True := eq_true (by have := HZ.out; omega)
        have u3 : (s.size : Int) = (j : Int) := by have := HZ.out; omega
        obtain ⟨r, e, hre⟩ : ∃ (r : ByteArray) (e : Int), (if 65536 < j then ((⟨#[]⟩ : ByteArray), (2 : Int)) else (s, 0)) = (r, e) := ⟨_, _, rfl⟩
        have HRE := Lib.hid hre
        have z100 : (s.extract 0 100).size = 100 := by have := HZ.out; rw [ByteArray.size_extract]; omega
        have HZ1 := Lib.hid z100
        clear hre z100 n1 n2 n3
        by_cases hbig : 65536 < j
        · have dB : decide (65536 < (s.size : Int)) = true := decide_eq_true (by omega)
          have he : r = ⟨#[]⟩ ∧ e = 2 := by have := HRE.out; rw [if_pos hbig] at this; injection this with h1 h2; exact ⟨h1.symm, h2.symm⟩
          have HBIG := Lib.hid hbig
          clear hbig u3
          go_wp2_with (first
            | ((with_reducible refine gate_dst (N := 39) rfl ?_); (try (refine gate_guard (by rfl) ?_; dsimp only)); refine Kd.R_lit (Kd.int .u8) _ 5 ?hg (N := 39) ?hd (xs := ([a, a, a, a, b] : List Int)) (inner := [.int .u8 a, .int .u8 a, .int .u8 a, .int .u8 a, .int .u8 b]) (ok := fun _ => True) (okp := fun _ => True) ?hr ?hp (fun _ hk => hk) trivial (Below.refl _ _) (Nat.le_refl _) (by simp) ?_; (case hd => rfl); (case hg => rfl); (case hr => first | (go_simp; done) | (go_simp; rfl)); (case hp => exact (Reps.one (show Kd.M (Kd.int .u8) _ _ _ a [.int .u8 a] from rfl) (Reps.one (show Kd.M (Kd.int .u8) _ _ _ a [.int .u8 a] from rfl) (Reps.one (show Kd.M (Kd.int .u8) _ _ _ a [.int .u8 a] from rfl) (Reps.one (show Kd.M (Kd.int .u8) _ _ _ a [.int .u8 a] from rfl) (Reps.one (show Kd.M (Kd.int .u8) _ _ _ b [.int .u8 b] from rfl) (Reps.none _ _))))))); intro v39 w39 ho_ hb_ hg_ hnew_; clear hg_ hnew_; have h39 := own_string (P := Try.prog) Try.underlying51 Try.underlying5 Try.underlying9 (Kd.own_of_R ho_); rw [← HS5.out] at h39; have HB5 := Lib.hid (HB4.out.trans (hb_.mono HB4.out.size)); clear ho_ hb_)
            | (go_at_call 12; with_reducible refine (make_c s5 (s.extract 0 100) (by have := HZ.out; omega) (by have := HZ1.out; omega) _).mono ?_; rintro x6 w6 ⟨rfl, hb6⟩; have HB6 := Lib.hid (HB5.out.trans (hb6.mono HB5.out.size)); clear hb6)
            | ((with_reducible refine gate_dst (N := 48) rfl ?_); (try (refine gate_guard (by rfl) ?_; dsimp only)); refine Kd.R_lit (Kd.int .i64) _ 3 ?hg (N := 48) ?hd (xs := ([0, 32768, 0, (wrap64 ((s.size : Int) - 32768))] : List Int)) (inner := [.int .i64 0, .int .i64 32768, .int .i64 0, .int .i64 (wrap64 ((s.size : Int) - 32768))]) (ok := fun _ => True) (okp := fun _ => True) ?hr ?hp (fun _ hk => hk) trivial (Below.refl _ _) (Nat.le_refl _) (by simp) ?_; (case hd => rfl); (case hg => rfl); (case hr => first | (go_simp; done) | (go_simp; rfl)); (case hp => exact (Reps.one (show Kd.M (Kd.int .i64) _ _ _ 0 [.int .i64 0] from rfl) (Reps.one (show Kd.M (Kd.int .i64) _ _ _ 32768 [.int .i64 32768] from rfl) (Reps.one (show Kd.M (Kd.int .i64) _ _ _ 0 [.int .i64 0] from rfl) (Reps.one (show Kd.M (Kd.int .i64) _ _ _ (wrap64 ((s.size : Int) - 32768)) [.int .i64 (wrap64 ((s.size : Int) - 32768))] from rfl) (Reps.none _ _)))))); intro v48 w48 ho_ hb_ hg_ hnew_; clear hg_ hnew_; rw [← HH.out] at ho_; have HO48 := Lib.hid ho_; have HB7 := Lib.hid (HB6.out.trans (hb_.mono HB6.out.size)); clear ho_ hb_)
            | ((with_reducible refine gate_dst (N := 49) rfl ?_); (try (refine gate_guard (by rfl) ?_; dsimp only)); refine Kd.R_lit Kd.string _ 9 ?hg (N := 49) ?hd (xs := ([(⟨#[]⟩ : ByteArray), (⟨#[]⟩ : ByteArray), (⟨#[]⟩ : ByteArray)] : List ByteArray)) (inner := [.string (⟨#[]⟩ : ByteArray), .string (⟨#[]⟩ : ByteArray), .string (⟨#[]⟩ : ByteArray)]) (ok := fun _ => True) (okp := fun _ => True) ?hr ?hp (fun _ hk => hk) trivial (Below.refl _ _) (Nat.le_refl _) (by simp) ?_; (case hd => rfl); (case hg => rfl); (case hr => first | (go_simp; done) | (go_simp; rfl)); (case hp => exact (Reps.one (show Kd.M Kd.string _ _ _ (⟨#[]⟩ : ByteArray) [.string (⟨#[]⟩ : ByteArray)] from rfl) (Reps.one (show Kd.M Kd.string _ _ _ (⟨#[]⟩ : ByteArray) [.string (⟨#[]⟩ : ByteArray)] from rfl) (Reps.one (show Kd.M Kd.string _ _ _ (⟨#[]⟩ : ByteArray) [.string (⟨#[]⟩ : ByteArray)] from rfl) (Reps.none _ _))))); intro v49 w49 ho_ hb_ hg_ hnew_; clear hg_ hnew_; rw [← HE.out] at ho_; have HO49 := Lib.hid ho_; have HO48b := Lib.hid (Kd.R_below HO48.out hb_); have HB8 := Lib.hid (HB7.out.trans (hb_.mono HB7.out.size)); clear ho_ hb_; obtain ⟨A48, k48, q48⟩ := Kd.R_slice HO48b.out; subst q48; obtain ⟨A49, k49, q49⟩ := Kd.R_slice HO49.out; subst q49)
            | (go_at_call 18; (with_reducible refine (code_c hl te HSM.out A48 k48 A49 k49 _ ?s1 ?s2 ?s3 ?s4).mono ?_); (case s1 => exact (Kd.R_reads' HO48b.out).2.2); (case s2 => exact (Kd.R_reads' HO48b.out).2.1); (case s3 => exact (Kd.R_reads' HO49.out).2.2); (case s4 => exact (Kd.R_reads' HO49.out).2.1); rintro x9 w9 ⟨rfl, hb9⟩; have HB9 := Lib.hid (HB8.out.trans (hb9.mono HB8.out.size)); clear hb9)
            | (go_at_call 16; with_reducible refine (half_d m j s hl te HS.out HH2.out HE3.out (by have := HZ.out; omega) (by have := HZ.out; omega) r e HRE.out _).mono ?_; rintro x10 w10 ⟨rfl, hb10⟩; have HB10 := Lib.hid (HB9.out.trans (hb10.mono HB9.out.size)); clear hb10))
          obtain ⟨he1, he2⟩ := he
          subst he1 he2
          have HX := Lib.hid HB10.out.drew
          clear hcv
          have q1 : ((⟨#[]⟩ : ByteArray).toList == (⟨#[]⟩ : ByteArray).toList) = true := beq_self_eq_true _
          have q2 : ((codeB [] [s.extract 0 100]).toList == (codeB [] [s.extract 0 100]).toList) = true := beq_self_eq_true _
          refine start_ (n := 32) (S := fun w' => True) (ds := []) #[false, false, false, false, false, false, false, false, false, false, false, false, false, false, false, false, false, false, false, false, false, false, false, false, false, false, false, false, false, false, false, false] (by kernel_rfl) rfl rfl trivial (fun hHeld => ?_)
          generalize w10.drew = wd at HX hHeld ⊢
          refine pure_ (i := 0) (N := some 60) (v := ?_) (a' := ?_) #[true, false, false, false, false, false, false, false, false, false, false, false, false, false, false, false, false, false, false, false, false, false, false, false, false, false, false, false, false, false, false, false] rfl rfl (by kernel_rfl) (fun _ _ _ h => h) (Or.inl ⟨by rfl, ?_⟩) ?_ ?_
          rotate_left
          · intro w'
            go_simp
            with_reducible rfl
          rotate_left
          · simp only [Act.put, List.setIfInBounds_toArray, List.set_cons_zero, List.set_cons_succ, i64_w, i32_w]
            rfl
          refine pure_ (i := 1) (N := some 61) (v := ?_) (a' := ?_) #[true, true, false, false, false, false, false, false, false, false, false, false, false, false, false, false, false, false, false, false, false, false, false, false, false, false, false, false, false, false, false, false] rfl rfl (by kernel_rfl) (fun _ _ _ h => h) (Or.inl ⟨by rfl, ?_⟩) ?_ ?_
          rotate_left
          · intro w'
            go_simp
            with_reducible rfl
          rotate_left
          · simp only [Act.put, List.setIfInBounds_toArray, List.set_cons_zero, List.set_cons_succ, i64_w, i32_w]
            rfl
          refine pure_ (i := 2) (N := some 62) (v := ?_) (a' := ?_) #[true, true, true, false, false, false, false, false, false, false, false, false, false, false, false, false, false, false, false, false, false, false, false, false, false, false, false, false, false, false, false, false] rfl rfl (by kernel_rfl) (fun _ _ _ h => h) (Or.inl ⟨by rfl, ?_⟩) ?_ ?_
          rotate_left
          · intro w'
            go_simp
            with_reducible rfl
          rotate_left
          · simp only [Act.put, List.setIfInBounds_toArray, List.set_cons_zero, List.set_cons_succ, i64_w, i32_w]
            rfl
          refine pure_ (i := 3) (N := some 63) (v := ?_) (a' := ?_) #[true, true, true, true, false, false, false, false, false, false, false, false, false, false, false, false, false, false, false, false, false, false, false, false, false, false, false, false, false, false, false, false] rfl rfl (by kernel_rfl) (fun _ _ _ h => h) (Or.inl ⟨by rfl, ?_⟩) ?_ ?_
          rotate_left
          · intro w'
            go_simp
            with_reducible rfl
          rotate_left
          · simp only [Act.put, List.setIfInBounds_toArray, List.set_cons_zero, List.set_cons_succ, i64_w, i32_w]
            rfl
          refine pure_ (i := 4) (N := some 64) (v := ?_) (a' := ?_) #[true, true, true, true, true, false, false, false, false, false, false, false, false, false, false, false, false, false, false, false, false, false, false, false, false, false, false, false, false, false, false, false] rfl rfl (by kernel_rfl) (fun _ _ _ h => h) (Or.inl ⟨by rfl, ?_⟩) ?_ ?_
          rotate_left
          · intro w'
            go_simp
            with_reducible rfl
          rotate_left
          · simp only [Act.put, List.setIfInBounds_toArray, List.set_cons_zero, List.set_cons_succ, i64_w, i32_w]
            rfl
          refine pure_ (i := 5) (N := some 65) (v := ?_) (a' := ?_) #[true, true, true, true, true, true, false, false, false, false, false, false, false, false, false, false, false, false, false, false, false, false, false, false, false, false, false, false, false, false, false, false] rfl rfl (by kernel_rfl) (fun _ _ _ h => h) (Or.inl ⟨by rfl, ?_⟩) ?_ ?_
          rotate_left
          · intro w'
            go_simp
            with_reducible rfl
          rotate_left
          · simp only [Act.put, List.setIfInBounds_toArray, List.set_cons_zero, List.set_cons_succ, i64_w, i32_w]
            rfl
          refine pure_ (i := 6) (N := some 66) (v := ?_) (a' := ?_) #[true, true, true, true, true, true, true, false, false, false, false, false, false, false, false, false, false, false, false, false, false, false, false, false, false, false, false, false, false, false, false, false] rfl rfl (by kernel_rfl) (fun _ _ _ h => h) (Or.inl ⟨by rfl, ?_⟩) ?_ ?_
          rotate_left
          · intro w'
            go_simp
            with_reducible rfl
          rotate_left
          · simp only [Act.put, List.setIfInBounds_toArray, List.set_cons_zero, List.set_cons_succ, i64_w, i32_w]
            rfl
          refine pure_ (i := 7) (N := some 67) (v := ?_) (a' := ?_) #[true, true, true, true, true, true, true, true, false, false, false, false, false, false, false, false, false, false, false, false, false, false, false, false, false, false, false, false, false, false, false, false] rfl rfl (by kernel_rfl) (fun _ _ _ h => h) (Or.inl ⟨by rfl, ?_⟩) ?_ ?_
          rotate_left
          · intro w'
            go_simp
            with_reducible rfl
          rotate_left
          · simp only [Act.put, List.setIfInBounds_toArray, List.set_cons_zero, List.set_cons_succ, i64_w, i32_w]
            rfl
          refine pure_ (i := 8) (N := some 68) (v := ?_) (a' := ?_) #[true, true, true, true, true, true, true, true, true, false, false, false, false, false, false, false, false, false, false, false, false, false, false, false, false, false, false, false, false, false, false, false] rfl rfl (by kernel_rfl) (fun _ _ _ h => h) (Or.inl ⟨by rfl, ?_⟩) ?_ ?_
          rotate_left
          · intro w'
            go_simp
            with_reducible rfl
          rotate_left
          · simp only [Act.put, List.setIfInBounds_toArray, List.set_cons_zero, List.set_cons_succ, i64_w, i32_w]
            rfl
          refine pure_ (i := 9) (N := some 69) (v := ?_) (a' := ?_) #[true, true, true, true, true, true, true, true, true, true, false, false, false, false, false, false, false, false, false, false, false, false, false, false, false, false, false, false, false, false, false, false] rfl rfl (by kernel_rfl) (fun _ _ _ h => h) (Or.inl ⟨by rfl, ?_⟩) ?_ ?_
          rotate_left
          · intro w'
            go_simp
            with_reducible rfl
          rotate_left
          · simp only [Act.put, List.setIfInBounds_toArray, List.set_cons_zero, List.set_cons_succ, i64_w, i32_w]
            rfl
          refine pure_ (i := 10) (N := some 70) (v := ?_) (a' := ?_) #[true, true, true, true, true, true, true, true, true, true, true, false, false, false, false, false, false, false, false, false, false, false, false, false, false, false, false, false, false, false, false, false] rfl rfl (by kernel_rfl) (fun _ _ _ h => h) (Or.inl ⟨by rfl, ?_⟩) ?_ ?_
          rotate_left
          · intro w'
            go_simp
            with_reducible rfl
          rotate_left
          · simp only [Act.put, List.setIfInBounds_toArray, List.set_cons_zero, List.set_cons_succ, i64_w, i32_w]
            rfl
          refine pure_ (i := 11) (N := some 71) (v := ?_) (a' := ?_) #[true, true, true, true, true, true, true, true, true, true, true, true, false, false, false, false, false, false, false, false, false, false, false, false, false, false, false, false, false, false, false, false] rfl rfl (by kernel_rfl) (fun _ _ _ h => h) (Or.inl ⟨by rfl, ?_⟩) ?_ ?_
          rotate_left
          · intro w'
            go_simp
            with_reducible rfl
          rotate_left
          · simp only [Act.put, List.setIfInBounds_toArray, List.set_cons_zero, List.set_cons_succ, i64_w, i32_w]
            rfl
          refine one_ (i := 12) (N := some 72) #[true, true, true, true, true, true, true, true, true, true, true, true, true, false, false, false, false, false, false, false, false, false, false, false, false, false, false, false, false, false, false, false] rfl rfl (by kernel_rfl) (by decide) (fun K hK => ?_)
          refine goes_ Try.func12 (by kernel_rfl) rfl #[.string s5, .string s] (by rfl) rfl rfl (by simp only [List.map_toArray, List.map_cons, List.map_nil]; rfl) ?_
          with_reducible refine (make_big s5 s (by have := HZ.out; have := HBIG.out; omega) _).mono ?_
          rintro e wx ⟨rfl, hb⟩
          refine ⟨_, rfl, ?_⟩
          have n_ := Lib.hid (HX.out.trans (hb.mono HX.out.size)); clear HX; have HX := n_; clear n_ hb
          refine hK.out _ _ trivial (fun hHeld => ?_)
          clear hK K
          refine norm_ (a' := ?_) ?_ ?_
          rotate_left
          · show Act.put _ (some 72) _ = _
            simp only [Act.put, List.setIfInBounds_toArray, List.set_cons_zero, List.set_cons_succ, i64_w, i32_w]
            rfl
          refine pure_ (i := 13) (N := some 73) (v := ?_) (a' := ?_) #[true, true, true, true, true, true, true, true, true, true, true, true, true, true, false, false, false, false, false, false, false, false, false, false, false, false, false, false, false, false, false, false] rfl rfl (by kernel_rfl) (fun _ _ _ h => h) (Or.inl ⟨by rfl, ?_⟩) ?_ ?_
          rotate_left
          · intro w'
            go_simp
            with_reducible rfl
          rotate_left
          · simp only [Act.put, List.setIfInBounds_toArray, List.set_cons_zero, List.set_cons_succ, i64_w, i32_w]
            rfl
          refine pure_ (i := 14) (N := some 74) (v := ?_) (a' := ?_) #[true, true, true, true, true, true, true, true, true, true, true, true, true, true, true, false, false, false, false, false, false, false, false, false, false, false, false, false, false, false, false, false] rfl rfl (by kernel_rfl) (fun _ _ _ h => h) (Or.inl ⟨by rfl, ?_⟩) ?_ ?_
          rotate_left
          · intro w'
            go_simp
            with_reducible rfl
          rotate_left
          · simp only [Act.put, List.setIfInBounds_toArray, List.set_cons_zero, List.set_cons_succ, i64_w, i32_w]
            rfl
          refine pure_ (i := 15) (N := some 75) (v := ?_) (a' := ?_) #[true, true, true, true, true, true, true, true, true, true, true, true, true, true, true, true, false, false, false, false, false, false, false, false, false, false, false, false, false, false, false, false] rfl rfl (by kernel_rfl) (fun _ _ _ h => h) (Or.inl ⟨by rfl, ?_⟩) ?_ ?_
          rotate_left
          · intro w'
            go_simp
            with_reducible rfl
          rotate_left
          · simp only [Act.put, List.setIfInBounds_toArray, List.set_cons_zero, List.set_cons_succ, i64_w, i32_w]
            rfl
          refine pure_ (i := 16) (N := some 76) (v := ?_) (a' := ?_) #[true, true, true, true, true, true, true, true, true, true, true, true, true, true, true, true, true, false, false, false, false, false, false, false, false, false, false, false, false, false, false, false] rfl rfl (by kernel_rfl) (fun _ _ _ h => h) (Or.inl ⟨by rfl, ?_⟩) ?_ ?_
          rotate_left
          · intro w'
            go_simp
            with_reducible rfl
          rotate_left
          · simp only [Act.put, List.setIfInBounds_toArray, List.set_cons_zero, List.set_cons_succ, i64_w, i32_w]
            rfl
          refine pure_ (i := 17) (N := some 77) (v := ?_) (a' := ?_) #[true, true, true, true, true, true, true, true, true, true, true, true, true, true, true, true, true, true, false, false, false, false, false, false, false, false, false, false, false, false, false, false] rfl rfl (by kernel_rfl) (fun _ _ _ h => h) (Or.inl ⟨by rfl, ?_⟩) ?_ ?_
          rotate_left
          · intro w'
            go_simp
            with_reducible rfl
          rotate_left
          · simp only [Act.put, List.setIfInBounds_toArray, List.set_cons_zero, List.set_cons_succ, i64_w, i32_w]
            rfl
          refine pure_ (i := 18) (N := some 78) (v := ?_) (a' := ?_) #[true, true, true, true, true, true, true, true, true, true, true, true, true, true, true, true, true, true, true, false, false, false, false, false, false, false, false, false, false, false, false, false] rfl rfl (by kernel_rfl) (fun _ _ _ h => h) (Or.inl ⟨by rfl, ?_⟩) ?_ ?_
          rotate_left
          · intro w'
            go_simp
            with_reducible rfl
          rotate_left
          · simp only [Act.put, List.setIfInBounds_toArray, List.set_cons_zero, List.set_cons_succ, i64_w, i32_w]
            rfl
          refine pure_ (i := 20) (N := some 80) (v := ?_) (a' := ?_) #[true, true, true, true, true, true, true, true, true, true, true, true, true, true, true, true, true, true, true, false, true, false, false, false, false, false, false, false, false, false, false, false] rfl rfl (by kernel_rfl) (fun _ _ _ h => h) (Or.inl ⟨by rfl, ?_⟩) ?_ ?_
          rotate_left
          · intro w'
            go_simp
            with_reducible rfl
          rotate_left
          · simp only [Act.put, List.setIfInBounds_toArray, List.set_cons_zero, List.set_cons_succ, i64_w, i32_w]
            rfl
          refine pure_ (i := 21) (N := some 81) (v := ?_) (a' := ?_) #[true, true, true, true, true, true, true, true, true, true, true, true, true, true, true, true, true, true, true, false, true, true, false, false, false, false, false, false, false, false, false, false] rfl rfl (by kernel_rfl) (fun _ _ _ h => h) (Or.inl ⟨by rfl, ?_⟩) ?_ ?_
          rotate_left
          · intro w'
            go_simp
            with_reducible rfl
          rotate_left
          · simp only [Act.put, List.setIfInBounds_toArray, List.set_cons_zero, List.set_cons_succ, i64_w, i32_w]
            rfl
          refine join_ (σ := Value) 9 #[true, true, true, true, true, true, true, true, true, true, true, true, true, true, true, true, true, true, true, true, true, true, true, false, false, false, false, false, false, false, false, false] (fun sv => [(79, .string (codeB [] [s.extract 0 100])), (82, sv)]) (fun sv w' => Below w.heap.size w w' ∧ ∃ gb, sv = .slice (some ⟨gb, 0, none⟩) 1 1 ∧ Kd.C Kd.string w' (some ⟨gb, 0, none⟩) 1 [s.extract 0 100]) ?_ ?_
          rotate_left
          · intro hCont
            refine two_ (i := 19) (j := 22) (Ni := some 79) (Nj := some 82) #[true, true, true, true, true, true, true, true, true, true, true, true, true, true, true, true, true, true, true, true, true, true, false, false, false, false, false, false, false, false, false, false] #[true, true, true, true, true, true, true, true, true, true, true, true, true, true, true, true, true, true, true, false, true, true, true, false, false, false, false, false, false, false, false, false] rfl rfl rfl rfl (by kernel_rfl) (by decide) (by decide) (fun K hK => ?_) (fun K hK => ?_)
            · skip
              refine goes_ Try.func12 (by kernel_rfl) rfl #[.string s, .string (s.extract 0 100)] (by rfl) rfl rfl (by simp only [List.map_toArray, List.map_cons, List.map_nil]; rfl) ?_
              with_reducible refine (make_none s (s.extract 0 100) (Or.inr (by have := HZ.out; have := HBIG.out; omega)) (by have := HZ1.out; omega) _).mono ?_
              rintro e wy ⟨rfl, hb⟩
              refine ⟨_, rfl, ?_⟩
              have n_ := Lib.hid (HX.out.trans (hb.mono HX.out.size)); clear HX; have HX := n_; clear n_ hb
              refine hK.out _ _ trivial (fun hHeld => ?_)
              clear hK K
              refine norm_ (a' := ?_) ?_ ?_
              rotate_left
              · show Act.put _ (some 79) _ = _
                simp only [Act.put, List.setIfInBounds_toArray, List.set_cons_zero, List.set_cons_succ, i64_w, i32_w]
                rfl
              refine one_ (i := 22) (N := some 82) #[true, true, true, true, true, true, true, true, true, true, true, true, true, true, true, true, true, true, true, true, true, true, true, false, false, false, false, false, false, false, false, false] rfl rfl (by kernel_rfl) (by decide) (fun K hK => ?_)
              refine value_ (w1 := ?_) (v := ?_) (by rfl) rfl ?_ ?_
              rotate_left 2
              · go_simp
                constructor
                · rfl
                · rfl
              have HG := Lib.hid (C_one wy (s.extract 0 100) 9)
              have n_ := Lib.hid (HX.out.alloc HX.out.size (.cells #[.string (s.extract 0 100)] 9)); clear HX; have HX := n_; clear n_
              refine hK.out _ _ trivial (fun hHeld => ?_)
              clear hK K
              refine norm_ (a' := ?_) ?_ ?_
              rotate_left
              · show Act.put _ (some 82) _ = _
                simp only [Act.put, List.setIfInBounds_toArray, List.set_cons_zero, List.set_cons_succ, i64_w, i32_w]
                rfl
              exact norm_ (by simp only [putAll, Act.put, List.setIfInBounds_toArray, List.set_cons_zero, List.set_cons_succ]) (hCont (.slice (some ⟨wy.heap.size, 0, none⟩) 1 1) _ ⟨HX.out, wy.heap.size, rfl, HG.out⟩)
            · skip
              refine value_ (w1 := ?_) (v := ?_) (by rfl) rfl ?_ ?_
              rotate_left 2
              · go_simp
                constructor
                · rfl
                · rfl
              have HG := Lib.hid (C_one wx (s.extract 0 100) 9)
              have n_ := Lib.hid (below_alloc HX.out (.cells #[.string (s.extract 0 100)] 9)); clear HX; have HX := n_; clear n_
              refine hK.out _ _ trivial (fun hHeld => ?_)
              clear hK K
              refine norm_ (a' := ?_) ?_ ?_
              rotate_left
              · show Act.put _ (some 82) _ = _
                simp only [Act.put, List.setIfInBounds_toArray, List.set_cons_zero, List.set_cons_succ, i64_w, i32_w]
                rfl
              refine one_ (i := 19) (N := some 79) #[true, true, true, true, true, true, true, true, true, true, true, true, true, true, true, true, true, true, true, true, true, true, true, false, false, false, false, false, false, false, false, false] rfl rfl (by kernel_rfl) (by decide) (fun K hK => ?_)
              refine goes_ Try.func12 (by kernel_rfl) rfl #[.string s, .string (s.extract 0 100)] (by rfl) rfl rfl (by simp only [List.map_toArray, List.map_cons, List.map_nil]; rfl) ?_
              with_reducible refine (make_none s (s.extract 0 100) (Or.inr (by have := HZ.out; have := HBIG.out; omega)) (by have := HZ1.out; omega) _).mono ?_
              rintro e wy ⟨rfl, hb⟩
              refine ⟨_, rfl, ?_⟩
              have m_ := Lib.hid (Kd.C_below HG.out hb)
              clear HG
              have HG := m_
              clear m_
              have n_ := Lib.hid (HX.out.trans (hb.mono HX.out.size)); clear HX; have HX := n_; clear n_ hb
              refine hK.out _ _ trivial (fun hHeld => ?_)
              clear hK K
              refine norm_ (a' := ?_) ?_ ?_
              rotate_left
              · show Act.put _ (some 79) _ = _
                simp only [Act.put, List.setIfInBounds_toArray, List.set_cons_zero, List.set_cons_succ, i64_w, i32_w]
                rfl
              exact norm_ (by simp only [putAll, Act.put, List.setIfInBounds_toArray, List.set_cons_zero, List.set_cons_succ]) (hCont (.slice (some ⟨wx.heap.size, 0, none⟩) 1 1) _ ⟨HX.out, wx.heap.size, rfl, HG.out⟩)
          rintro sv w' ⟨hF1, gb, rfl, hgb⟩
          have HX := Lib.hid hF1
          have HG := Lib.hid hgb
          have hHeld : True := trivial
          refine norm_ (a' := ?_) ?_ ?_
          rotate_left
          · simp only [putAll, Act.put, List.setIfInBounds_toArray, List.set_cons_zero, List.set_cons_succ]
            rfl
          refine one_ (i := 23) (N := some 83) #[true, true, true, true, true, true, true, true, true, true, true, true, true, true, true, true, true, true, true, true, true, true, true, true, false, false, false, false, false, false, false, false] rfl rfl (by kernel_rfl) (by decide) (fun K hK => ?_)
          refine goes_ Try.func18 (by kernel_rfl) rfl #[.slice none 0 0, .slice (some ⟨gb, 0, none⟩) 1 1] (by rfl) rfl rfl (by simp only [List.map_toArray, List.map_cons, List.map_nil]; rfl) ?_
          with_reducible refine (code_1 (s.extract 0 100) (by have := HZ1.out; omega) (some ⟨gb, 0, none⟩) 1 _ HG.out (Nat.le_refl _)).mono ?_
          rintro e wy ⟨rfl, hb⟩
          refine ⟨_, rfl, ?_⟩
          have n_ := Lib.hid (HX.out.trans (hb.mono HX.out.size)); clear HX; have HX := n_; clear n_ hb
          refine hK.out _ _ trivial (fun hHeld => ?_)
          clear hK K
          refine norm_ (a' := ?_) ?_ ?_
          rotate_left
          · show Act.put _ (some 83) _ = _
            simp only [Act.put, List.setIfInBounds_toArray, List.set_cons_zero, List.set_cons_succ, i64_w, i32_w]
            rfl
          refine pure_ (i := 24) (N := some 84) (v := ?_) (a' := ?_) #[true, true, true, true, true, true, true, true, true, true, true, true, true, true, true, true, true, true, true, true, true, true, true, true, true, false, false, false, false, false, false, false] rfl rfl (by kernel_rfl) (fun _ _ _ h => h) (Or.inl ⟨by rfl, ?_⟩) ?_ ?_
          rotate_left
          · intro w'
            go_simp
            with_reducible rfl
          rotate_left
          · simp only [Act.put, List.setIfInBounds_toArray, List.set_cons_zero, List.set_cons_succ, i64_w, i32_w]
            rfl
          refine pure_ (i := 25) (N := some 85) (v := ?_) (a' := ?_) #[true, true, true, true, true, true, true, true, true, true, true, true, true, true, true, true, true, true, true, true, true, true, true, true, true, true, false, false, false, false, false, false] rfl rfl (by kernel_rfl) (fun _ _ _ h => h) (Or.inl ⟨by rfl, ?_⟩) ?_ ?_
          rotate_left
          · intro w'
            go_simp
            with_reducible rfl
          rotate_left
          · simp only [Act.put, List.setIfInBounds_toArray, List.set_cons_zero, List.set_cons_succ, i64_w, i32_w]
            rfl
          refine pure_ (i := 26) (N := some 86) (v := ?_) (a' := ?_) #[true, true, true, true, true, true, true, true, true, true, true, true, true, true, true, true, true, true, true, true, true, true, true, true, true, true, true, false, false, false, false, false] rfl rfl (by kernel_rfl) (fun _ _ _ h => h) (Or.inl ⟨by rfl, ?_⟩) ?_ ?_
          rotate_left
          · intro w'
            go_simp
            with_reducible rfl
          rotate_left
          · simp only [Act.put, List.setIfInBounds_toArray, List.set_cons_zero, List.set_cons_succ, i64_w, i32_w]
            rfl
          refine pure_ (i := 27) (N := some 87) (v := ?_) (a' := ?_) #[true, true, true, true, true, true, true, true, true, true, true, true, true, true, true, true, true, true, true, true, true, true, true, true, true, true, true, true, false, false, false, false] rfl rfl (by kernel_rfl) (fun _ _ _ h => h) (Or.inl ⟨by rfl, ?_⟩) ?_ ?_
          rotate_left
          · intro w'
            go_simp
            with_reducible rfl
          rotate_left
          · simp only [Act.put, List.setIfInBounds_toArray, List.set_cons_zero, List.set_cons_succ, i64_w, i32_w]
            rfl
          refine pure_ (i := 28) (N := some 88) (v := ?_) (a' := ?_) #[true, true, true, true, true, true, true, true, true, true, true, true, true, true, true, true, true, true, true, true, true, true, true, true, true, true, true, true, true, false, false, false] rfl rfl (by kernel_rfl) (fun _ _ _ h => h) (Or.inl ⟨by rfl, ?_⟩) ?_ ?_
          rotate_left
          · intro w'
            go_simp
            with_reducible rfl
          rotate_left
          · simp only [Act.put, List.setIfInBounds_toArray, List.set_cons_zero, List.set_cons_succ, i64_w, i32_w]
            rfl
          refine pure_ (i := 29) (N := some 89) (v := ?_) (a' := ?_) #[true, true, true, true, true, true, true, true, true, true, true, true, true, true, true, true, true, true, true, true, true, true, true, true, true, true, true, true, true, true, false, false] rfl rfl (by kernel_rfl) (fun _ _ _ h => h) (Or.inl ⟨by rfl, ?_⟩) ?_ ?_
          rotate_left
          · intro w'
            go_simp
            with_reducible rfl
          rotate_left
          · simp only [Act.put, List.setIfInBounds_toArray, List.set_cons_zero, List.set_cons_succ, i64_w, i32_w]
            rfl
          refine pure_ (i := 30) (N := some 90) (v := ?_) (a' := ?_) #[true, true, true, true, true, true, true, true, true, true, true, true, true, true, true, true, true, true, true, true, true, true, true, true, true, true, true, true, true, true, true, false] rfl rfl (by kernel_rfl) (fun _ _ _ h => h) (Or.inl ⟨by rfl, ?_⟩) ?_ ?_
          rotate_left
          · intro w'
            go_simp
            with_reducible rfl
          rotate_left
          · simp only [Act.put, List.setIfInBounds_toArray, List.set_cons_zero, List.set_cons_succ, i64_w, i32_w]
            rfl
          refine pure_ (i := 31) (N := some 6) (v := ?_) (a' := ?_) #[true, true, true, true, true, true, true, true, true, true, true, true, true, true, true, true, true, true, true, true, true, true, true, true, true, true, true, true, true, true, true, true] rfl rfl (by kernel_rfl) (fun _ _ _ h => h) (Or.inl ⟨by rfl, ?_⟩) ?_ ?_
          rotate_left
          · intro w'
            go_simp
            with_reducible rfl
          rotate_left
          · simp only [Act.put, List.setIfInBounds_toArray, List.set_cons_zero, List.set_cons_succ, i64_w, i32_w]
            rfl
          refine done_ (by kernel_rfl) ?_
          have hpos := codeB_pos (Pcs s5 (s.extract 0 100)).1 (Pcs s5 (s.extract 0 100)).2
          rw [show decide (0 < (MakeB s5 (s.extract 0 100)).size) = true from decide_eq_true hpos]
          go_wp2
          go_ret
          exact ⟨rfl, HX.out⟩
        · have dB : decide (65536 < (s.size : Int)) = false := decide_eq_false (by omega)
          have he : r = s ∧ e = 0 := by have := HRE.out; rw [if_neg hbig] at this; injection this with h1 h2; exact ⟨h1.symm, h2.symm⟩
          have HBIG := Lib.hid hbig
          clear hbig u3
          obtain ⟨he1, he2⟩ := he
          subst he1 he2
          have q1 : (r.toList == r.toList) = true := beq_self_eq_true _
          have q2 : ((codeB [] [r]).toList == (codeB [] [r]).toList) = true := beq_self_eq_true _
          go_wp2_with (first
            | ((with_reducible refine gate_dst (N := 39) rfl ?_); (try (refine gate_guard (by rfl) ?_; dsimp only)); refine Kd.R_lit (Kd.int .u8) _ 5 ?hg (N := 39) ?hd (xs := ([a, a, a, a, b] : List Int)) (inner := [.int .u8 a, .int .u8 a, .int .u8 a, .int .u8 a, .int .u8 b]) (ok := fun _ => True) (okp := fun _ => True) ?hr ?hp (fun _ hk => hk) trivial (Below.refl _ _) (Nat.le_refl _) (by simp) ?_; (case hd => rfl); (case hg => rfl); (case hr => first | (go_simp; done) | (go_simp; rfl)); (case hp => exact (Reps.one (show Kd.M (Kd.int .u8) _ _ _ a [.int .u8 a] from rfl) (Reps.one (show Kd.M (Kd.int .u8) _ _ _ a [.int .u8 a] from rfl) (Reps.one (show Kd.M (Kd.int .u8) _ _ _ a [.int .u8 a] from rfl) (Reps.one (show Kd.M (Kd.int .u8) _ _ _ a [.int .u8 a] from rfl) (Reps.one (show Kd.M (Kd.int .u8) _ _ _ b [.int .u8 b] from rfl) (Reps.none _ _))))))); intro v39 w39 ho_ hb_ hg_ hnew_; clear hg_ hnew_; have h39 := own_string (P := Try.prog) Try.underlying51 Try.underlying5 Try.underlying9 (Kd.own_of_R ho_); rw [← HS5.out] at h39; have HB5 := Lib.hid (HB4.out.trans (hb_.mono HB4.out.size)); clear ho_ hb_)
            | (go_at_call 12; first
              | (with_reducible refine (make_c s5 (r.extract 0 100) (by have := HZ.out; omega) (by have := HZ1.out; omega) _).mono ?_; rintro x6 w6 ⟨rfl, hb6⟩; have HB6 := Lib.hid (HB5.out.trans (hb6.mono HB5.out.size)); clear hb6)
              | (with_reducible refine (make_none ⟨#[]⟩ r (Or.inl rfl) (by have := HZ.out; have := HBIG.out; omega) _).mono ?_; rintro x11 w11 ⟨rfl, hb11⟩; have HB11 := Lib.hid (HB10.out.trans (hb11.mono HB10.out.size)); clear hb11))
            | ((with_reducible refine gate_dst (N := 48) rfl ?_); (try (refine gate_guard (by rfl) ?_; dsimp only)); refine Kd.R_lit (Kd.int .i64) _ 3 ?hg (N := 48) ?hd (xs := ([0, 32768, 0, (wrap64 ((r.size : Int) - 32768))] : List Int)) (inner := [.int .i64 0, .int .i64 32768, .int .i64 0, .int .i64 (wrap64 ((r.size : Int) - 32768))]) (ok := fun _ => True) (okp := fun _ => True) ?hr ?hp (fun _ hk => hk) trivial (Below.refl _ _) (Nat.le_refl _) (by simp) ?_; (case hd => rfl); (case hg => rfl); (case hr => first | (go_simp; done) | (go_simp; rfl)); (case hp => exact (Reps.one (show Kd.M (Kd.int .i64) _ _ _ 0 [.int .i64 0] from rfl) (Reps.one (show Kd.M (Kd.int .i64) _ _ _ 32768 [.int .i64 32768] from rfl) (Reps.one (show Kd.M (Kd.int .i64) _ _ _ 0 [.int .i64 0] from rfl) (Reps.one (show Kd.M (Kd.int .i64) _ _ _ (wrap64 ((r.size : Int) - 32768)) [.int .i64 (wrap64 ((r.size : Int) - 32768))] from rfl) (Reps.none _ _)))))); intro v48 w48 ho_ hb_ hg_ hnew_; clear hg_ hnew_; rw [← HH.out] at ho_; have HO48 := Lib.hid ho_; have HB7 := Lib.hid (HB6.out.trans (hb_.mono HB6.out.size)); clear ho_ hb_)
            | ((with_reducible refine gate_dst (N := 49) rfl ?_); (try (refine gate_guard (by rfl) ?_; dsimp only)); refine Kd.R_lit Kd.string _ 9 ?hg (N := 49) ?hd (xs := ([(⟨#[]⟩ : ByteArray), (⟨#[]⟩ : ByteArray), (⟨#[]⟩ : ByteArray)] : List ByteArray)) (inner := [.string (⟨#[]⟩ : ByteArray), .string (⟨#[]⟩ : ByteArray), .string (⟨#[]⟩ : ByteArray)]) (ok := fun _ => True) (okp := fun _ => True) ?hr ?hp (fun _ hk => hk) trivial (Below.refl _ _) (Nat.le_refl _) (by simp) ?_; (case hd => rfl); (case hg => rfl); (case hr => first | (go_simp; done) | (go_simp; rfl)); (case hp => exact (Reps.one (show Kd.M Kd.string _ _ _ (⟨#[]⟩ : ByteArray) [.string (⟨#[]⟩ : ByteArray)] from rfl) (Reps.one (show Kd.M Kd.string _ _ _ (⟨#[]⟩ : ByteArray) [.string (⟨#[]⟩ : ByteArray)] from rfl) (Reps.one (show Kd.M Kd.string _ _ _ (⟨#[]⟩ : ByteArray) [.string (⟨#[]⟩ : ByteArray)] from rfl) (Reps.none _ _))))); intro v49 w49 ho_ hb_ hg_ hnew_; clear hg_ hnew_; rw [← HE.out] at ho_; have HO49 := Lib.hid ho_; have HO48b := Lib.hid (Kd.R_below HO48.out hb_); have HB8 := Lib.hid (HB7.out.trans (hb_.mono HB7.out.size)); clear ho_ hb_; obtain ⟨A48, k48, q48⟩ := Kd.R_slice HO48b.out; subst q48; obtain ⟨A49, k49, q49⟩ := Kd.R_slice HO49.out; subst q49)
            | (go_at_call 18; first
              | ((with_reducible refine (code_c hl te HSM.out A48 k48 A49 k49 _ ?s1 ?s2 ?s3 ?s4).mono ?_); (case s1 => exact (Kd.R_reads' HO48b.out).2.2); (case s2 => exact (Kd.R_reads' HO48b.out).2.1); (case s3 => exact (Kd.R_reads' HO49.out).2.2); (case s4 => exact (Kd.R_reads' HO49.out).2.1); rintro x9 w9 ⟨rfl, hb9⟩; have HB9 := Lib.hid (HB8.out.trans (hb9.mono HB8.out.size)); clear hb9)
              | (with_reducible refine (code_1 r (by have := HZ.out; omega) (some ⟨w11.heap.size, 0, none⟩) 1 _ (C_one w11 r 9) (Nat.le_refl _)).mono ?_; rintro x12 w12 ⟨rfl, hb12⟩; have HB12 := Lib.hid ((below_alloc HB11.out _).trans (hb12.mono (below_alloc HB11.out _).size)); clear hb12))
            | (go_at_call 16; with_reducible refine (half_d m j r hl te HS.out HH2.out HE3.out (by have := HZ.out; omega) (by have := HZ.out; omega) r 0 HRE.out _).mono ?_; rintro x10 w10 ⟨rfl, hb10⟩; have HB10 := Lib.hid (HB9.out.trans (hb10.mono HB9.out.size)); clear hb10))
          go_ret
          exact ⟨rfl, HB12.out⟩
theorem diffLong_calls (w : World) (a0 : Int) (w0 : (Lit.int .u8 a0).wf = true) (a1 : Int) (w1 : (Lit.int .u8 a1).wf = true) (a2 : Int) (w2 : (Lit.int .i8 a2).wf = true) :
    Calls Try.prog 9 #[.int .u8 a0, .int .u8 a1, .int .i8 a2] w fun e w' => e = .returned (.bool true) ∧ Below w.heap.size w w' := by
  have h0 : 0 ≤ a0 ∧ a0 ≤ 255 := by simp [Lit.wf] at w0; exact w0
  have h2 : -128 ≤ a2 ∧ a2 ≤ 127 := by simp [Lit.wf] at w2; exact w2
  exact diffLong_walk w a0.toNat a0 a1 a2 (by omega) h2
end Go.Proofs.Ytjjpiedcdcdejaa.Pure
