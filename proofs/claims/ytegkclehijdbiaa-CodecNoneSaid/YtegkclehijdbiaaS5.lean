import Derived.Test.YtegkclehijdbiaaS4
import Derived.Test.YtegkclehijdbiaaOP
set_option linter.unusedVariables false
set_option linter.unusedSimpArgs false
namespace Go.Proofs.Ytegkclehijdbiaa.S5
open Go.RowKit Go.Proofs.Ytegkclehijdbiaa.PCodecTakes Go.Proofs.Ytegkclehijdbiaa.V1 Go.Proofs.Ytegkclehijdbiaa.V3 Go.Proofs.Ytegkclehijdbiaa.CA Go.Proofs.Ytegkclehijdbiaa.CH Go.Proofs.Ytegkclehijdbiaa.PE Go.Proofs.Ytegkclehijdbiaa.PF Go.Proofs.Ytegkclehijdbiaa.PG Go.Proofs.Ytegkclehijdbiaa.PH Go.Proofs.Ytegkclehijdbiaa.AW Go.Proofs.Ytegkclehijdbiaa.S1 Go.Proofs.Ytegkclehijdbiaa.S2 Go.Proofs.Ytegkclehijdbiaa.S4
open Go.Proofs.YtegkclehijdbiaaW.PrintLast hiding takeB
open Go.Proofs.YtegkclehijdbiaaW.PrintWords hiding Ev
set_option maxRecDepth 20000 in
set_option maxHeartbeats 4000000 in
/-- CodecNone. -/
theorem law (k n m : Int) (hf : OP.Ak.Fit ⟨k, n, m⟩) (w : World) :
    Calls Try.prog 7 #[.agg #[.int .i64 k, .int .i64 n, .int .i64 m]] w fun e w' => e = .returned (.bool true) ∧ Below w.heap.size w w' := by
  obtain ⟨k0, k1, n0, n1, m0, m1⟩ := hf
  dsimp only at k0 k1 n0 n1 m0 m1
  have P0 : Below w.heap.size w (w.alloc (.cells #[.int .i64 k, .int .i64 n, .int .i64 m] 80)) := by go_grown
  have a0 : (w.alloc (.cells #[.int .i64 k, .int .i64 n, .int .i64 m] 80)).heap[w.heap.size]? = some (.cells #[.int .i64 k, .int .i64 n, .int .i64 m] 80 (0, 0)) := heap_alloc_new w _
  have e0 : (w.alloc (.cells #[.int .i64 k, .int .i64 n, .int .i64 m] 80)).cell? ⟨w.heap.size, 0, none⟩ = some (.int .i64 k) := (blk_cell a0 0).trans rfl
  have e1 : (w.alloc (.cells #[.int .i64 k, .int .i64 n, .int .i64 m] 80)).cell? ⟨w.heap.size, 1, none⟩ = some (.int .i64 n) := (blk_cell a0 1).trans rfl
  have e2 : (w.alloc (.cells #[.int .i64 k, .int .i64 n, .int .i64 m] 80)).cell? ⟨w.heap.size, 2, none⟩ = some (.int .i64 m) := (blk_cell a0 2).trans rfl
  clear a0
  go_enter Try.func7, Try.ntmps7
  go_upto_region 2 with fail
  generalize w.alloc (.cells #[.int .i64 k, .int .i64 n, .int .i64 m] 80) = X at *
  have P3 : Below X.heap.size X (X.alloc (.cells #[.string ⟨#[]⟩, .bool true] 77)) := by go_grown
  have P2 := P0.trans (P3.mono P0.size)
  have hI : IsS77 w (X.alloc (.cells #[.string ⟨#[]⟩, .bool true] 77)) X.heap.size ⟨#[]⟩ true := ⟨heap_alloc_new X _, P0.size⟩
  have hP : Pt w (X.alloc (.cells #[.string ⟨#[]⟩, .bool true] 77)) X.heap.size none := ⟨[], true, hI, PS.mk0 (by simp), P2⟩
  have e0 := pw_cell_below P3 e0
  have e1 := pw_cell_below P3 e1
  have e2 := pw_cell_below P3 e2
  have hS := Lib.hid (same45N w X.heap.size k n m _ hP k0 k1 n0 n1 m0 m1)
  clear hP hI P3 P2
  go_wp2_with fail
  (with_reducible refine hS.out.mono ?_)
  rintro e W4 ⟨rfl, hp⟩
  clear hS e0 e1 e2
  have hB : Below w.heap.size w W4 := by obtain ⟨u, b, _, _, h⟩ := hp; exact h
  clear hp
  go_wp2_with fail
  (with_reducible refine (awake27 _).mono ?_)
  rintro e W1 ⟨rfl, hB1⟩
  go_wp2
  go_ret
  exact ⟨rfl, hB.trans (hB1.mono hB.size)⟩
end Go.Proofs.Ytegkclehijdbiaa.S5
