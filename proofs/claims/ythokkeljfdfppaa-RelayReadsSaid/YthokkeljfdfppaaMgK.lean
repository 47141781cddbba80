/- Several texts of this claim, one behind the other: RnI, RnD, RnK, RnE. -/
import Derived.Test.YthokkeljfdfppaaMgX
import Derived.Test.YthokkeljfdfppaaMgN
/- A relay that is asked stays as it is. -/
set_option linter.unusedVariables false
set_option linter.unusedSimpArgs false
namespace Go.Proofs.Ythokkeljfdfppaa.Rl
open Go.RowKit Go.Proofs.YthokkeljfdfppaaW.PrintWords Go.Proofs.YthokkeljfdfppaaW.PrintLast Go.Proofs.YthokkeljfdfppaaW.PrintMore Go.Proofs.Ythokkeljfdfppaa.Pb Go.Proofs.Ythokkeljfdfppaa.Gw Go.Proofs.Ythokkeljfdfppaa.Pure Go.WideMaps Go.WideElems
open Go.ChangeShapes Go.WideShapes Go.MapKept
end Go.Proofs.Ythokkeljfdfppaa.Rl

/- all: a relay is asked for everything. -/
set_option linter.unusedVariables false
set_option linter.unusedSimpArgs false
namespace Go.Proofs.Ythokkeljfdfppaa.Rl
open Go.RowKit Go.Proofs.YthokkeljfdfppaaW.PrintWords Go.Proofs.YthokkeljfdfppaaW.PrintLast Go.Proofs.YthokkeljfdfppaaW.PrintMore Go.Proofs.Ythokkeljfdfppaa.Pb Go.Proofs.Ythokkeljfdfppaa.Gw Go.Proofs.Ythokkeljfdfppaa.Pure
theorem ask_small (f : ByteArray) (v : Int) (ks : List S52) (hf : f.size ≤ 20) (hv : Pure.I64 v) (hl : ks.length ≤ 20) (h : ∀ k ∈ ks, KOk k) : (AskB f v ks).size ≤ 700 := by
 have h1 := join_size KeyB 30 ks (HeadB f v (ks.length : Nat)) (fun k hk => KeyB_size (h k hk))
 have h2 : (HeadB f v ((ks.length : Nat) : Int)).size ≤ 100 := by
  have a1 := TextB_size askW (by decide)
  have a2 := TextB_size f (by omega)
  have a3 := IntB_small v hv.1 hv.2
  have a4 := IntB_small ((ks.length : Nat) : Int) (by omega) (by omega)
  have b1 : askW.size = 3 := rfl
  unfold HeadB
  simp only [ByteArray.size_append]
  omega
 unfold AskB
 omega
theorem told_small (l : List S55) (hl : l.length ≤ 12) (h : ∀ p ∈ l, MadeP p) : (ToldB l).size ≤ 4000 := by
 have h1 := TextB_size toldW (by decide)
 have h2 : toldW.size = 4 := rfl
 have h3 := IntB_small (((l.map EncB).length : Nat) : Int) (by rw [List.length_map]; omega) (by rw [List.length_map]; omega)
 have h4 : (TextsB (l.map EncB)).size ≤ 3730 := by
  have hj := join_size TextB 310 (l.map EncB) (IntB (((l.map EncB).length : Nat) : Int)) (fun t ht => by
   obtain ⟨p, hp, rfl⟩ := List.mem_map.1 ht
   have a0 := (made_enc (h p hp)).2.1
   have a1 := TextB_size (EncB p) (by omega)
   omega)
  have hl2 : (l.map EncB).length = l.length := List.length_map ..
  show (join TextB (l.map EncB) (IntB (((l.map EncB).length : Nat) : Int))).size ≤ 3730
  omega
 unfold ToldB
 rw [ByteArray.size_append]
 omega
theorem und33 : Try.prog.underlying 33 = some (.slice 52) := by kernel_rfl
theorem info52k : (Try.prog.info? 52).map (fun i => (i.zero, i.size, i.bytes)) = some (some (.agg #[.int .i64 0, .int .i64 0, .int .i64 0]), k52.sz, 24) := by kernel_rfl
end Go.Proofs.Ythokkeljfdfppaa.Rl

/- all: a relay is asked for everything. -/
set_option linter.unusedVariables false
set_option linter.unusedSimpArgs false
namespace Go.Proofs.Ythokkeljfdfppaa.Rl
open Go.RowKit Go.Proofs.YthokkeljfdfppaaW.PrintWords Go.Proofs.YthokkeljfdfppaaW.PrintLast Go.Proofs.YthokkeljfdfppaaW.PrintMore Go.Proofs.Ythokkeljfdfppaa.Pb Go.Proofs.Ythokkeljfdfppaa.Gw Go.Proofs.Ythokkeljfdfppaa.Pure
end Go.Proofs.Ythokkeljfdfppaa.Rl

/- What a relay tells when asked for everything: what it keeps, in another order. What is kept: the last one of rivals. -/
set_option linter.unusedVariables false
set_option linter.unusedSimpArgs false
namespace Go.Proofs.Ythokkeljfdfppaa.Rl
open Go.RowKit Go.Proofs.YthokkeljfdfppaaW.PrintWords Go.Proofs.YthokkeljfdfppaaW.PrintLast Go.Proofs.YthokkeljfdfppaaW.PrintMore Go.Proofs.Ythokkeljfdfppaa.Pb Go.Proofs.Ythokkeljfdfppaa.Gw Go.Proofs.Ythokkeljfdfppaa.Pure
end Go.Proofs.Ythokkeljfdfppaa.Rl

