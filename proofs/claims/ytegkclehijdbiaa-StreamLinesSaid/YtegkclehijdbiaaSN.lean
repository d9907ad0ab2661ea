import Derived.Test.YtegkclehijdbiaaCN
import Derived.Test.YtegkclehijdbiaaVF
import Derived.Test.YtegkclehijdbiaaOP
set_option linter.unusedSimpArgs false
set_option linter.unusedVariables false
namespace Go.Proofs.Ytegkclehijdbiaa.SN
open Go.RowKit Go.Proofs.YtegkclehijdbiaaW.PrintWords Go.Proofs.YtegkclehijdbiaaW.PrintLast Go.Proofs.Ytegkclehijdbiaa.V1 Go.Proofs.Ytegkclehijdbiaa.V2 Go.Proofs.Ytegkclehijdbiaa.V3 Go.Proofs.Ytegkclehijdbiaa.VC Go.Proofs.Ytegkclehijdbiaa.VD Go.Proofs.Ytegkclehijdbiaa.VF Go.Proofs.Ytegkclehijdbiaa.CN

set_option maxHeartbeats 400000 in
theorem name16N (w : World) : Calls Try.prog 16 #[.pointer none] w (SameW (.string ⟨#[]⟩) w) := by
  go_enter Try.func16, Try.ntmps16
  go_wp2
  go_ret
  exact ⟨rfl, rfl⟩
set_option maxHeartbeats 400000 in
theorem mark20N (w : World) : Calls Try.prog 20 #[.pointer none] w (SameW (.int .i64 0) w) := by
  go_enter Try.func20, Try.ntmps20
  go_wp2
  go_ret
  exact ⟨rfl, rfl⟩
set_option maxHeartbeats 400000 in
theorem set17N (n : Int) (w : World) : Calls Try.prog 17 #[.pointer none, .int .i64 n] w (SameW (.int .i64 1) w) := by
  go_enter Try.func17, Try.ntmps17
  go_wp2
  go_ret
  exact ⟨rfl, rfl⟩
set_option maxHeartbeats 400000 in
theorem check19N (id : Int) (A : Option Addr) (m c : Nat) (w : World) : Calls Try.prog 19 #[.pointer none, .agg #[.int .i64 id, .slice A m c]] w (StN (.int .i64 1) w) := by
  have P0 : Below w.heap.size w (w.alloc (.cells #[.int .i64 id, .slice A m c] 38)) := by go_grown
  go_enter Try.func19, Try.ntmps19
  go_wp2
  go_ret
  exact ⟨rfl, P0⟩
set_option maxHeartbeats 400000 in
theorem take21N (id : Int) (A : Option Addr) (m c : Nat) (w : World) : Calls Try.prog 21 #[.pointer none, .agg #[.int .i64 id, .slice A m c]] w (StN (.int .i64 1) w) := by
  have P0 : Below w.heap.size w (w.alloc (.cells #[.int .i64 id, .slice A m c] 38)) := by go_grown
  have a0 : (w.alloc (.cells #[.int .i64 id, .slice A m c] 38)).heap[w.heap.size]? = some (.cells #[.int .i64 id, .slice A m c] 38 (0, 0)) := heap_alloc_new w _
  have e0 : (w.alloc (.cells #[.int .i64 id, .slice A m c] 38)).cell? ⟨w.heap.size, 0, none⟩ = some (.int .i64 id) := (blk_cell a0 0).trans rfl
  have e1 : (w.alloc (.cells #[.int .i64 id, .slice A m c] 38)).cell? ⟨w.heap.size, 1, none⟩ = some (.slice A m c) := (blk_cell a0 1).trans rfl
  clear a0
  go_enter Try.func21, Try.ntmps21
  go_upto_region 1 with fail
  generalize w.alloc (.cells #[.int .i64 id, .slice A m c] 38) = X at *
  go_wp2_with fail
  (with_reducible refine (check19N id A m c _).mono ?_)
  rintro e W1 ⟨rfl, hB1⟩
  clear e0 e1
  go_wp2
  go_ret
  exact ⟨rfl, P0.trans (hB1.mono P0.size)⟩
set_option maxHeartbeats 400000 in
theorem put54N (id : Int) (A : Option Addr) (m c : Nat) (w : World) : Calls Try.prog 54 #[.pointer none, .agg #[.int .i64 id, .slice A m c]] w (StN (.int .i64 1) w) := by
  have P0 : Below w.heap.size w (w.alloc (.cells #[.int .i64 id, .slice A m c] 38)) := by go_grown
  go_enter Try.func54, Try.ntmps54
  go_wp2
  go_ret
  exact ⟨rfl, P0⟩
set_option maxHeartbeats 400000 in
theorem len58N (w : World) : Calls Try.prog 58 #[.pointer none] w (SameW (.int .i64 0) w) := by
  go_enter Try.func58, Try.ntmps58
  go_wp2
  go_ret
  exact ⟨rfl, rfl⟩
set_option maxHeartbeats 400000 in
theorem rows59N (w : World) : Calls Try.prog 59 #[.pointer none] w (SameW (.int .i64 0) w) := by
  go_enter Try.func59, Try.ntmps59
  go_wp2
  go_ret
  exact ⟨rfl, rfl⟩
set_option maxHeartbeats 400000 in
theorem batches60N (A : Option Addr) (m c : Nat) (w : World) : Calls Try.prog 60 #[.pointer none, .slice A m c] w (SameW (.slice none 0 0) w) := by
  go_enter Try.func60, Try.ntmps60
  go_wp2
  go_ret
  exact ⟨rfl, rfl⟩
/-- No batch. -/
abbrev noB : Value := .agg #[.int .i64 0, .slice none 0 0]
set_option maxHeartbeats 1000000 in
theorem first55N (w : World) : Calls Try.prog 55 #[.pointer none] w (StN (.tuple #[noB, .bool false]) w) := by
  have P0 : Below w.heap.size w (w.alloc (.cells #[.int .i64 0, .slice none 0 0] 38)) := by go_grown
  have a0 : Hid ((w.alloc (.cells #[.int .i64 0, .slice none 0 0] 38)).heap[w.heap.size]? = some (.cells #[.int .i64 0, .slice none 0 0] 38 (0, 0))) := heap_alloc_new w _
  have g0 : (w.alloc (.cells #[.int .i64 0, .slice none 0 0] 38)).cell? ⟨w.heap.size, 0, none⟩ = some (.int .i64 0) := (blk_cell a0.out 0).trans rfl
  have g1 : (w.alloc (.cells #[.int .i64 0, .slice none 0 0] 38)).cell? ⟨w.heap.size, 1, none⟩ = some (.slice none 0 0) := (blk_cell a0.out 1).trans rfl
  have q0 := blk_frozen a0.out
  go_enter Try.func55, Try.ntmps55
  go_upto_region 1 with fail
  generalize w.alloc (.cells #[.int .i64 0, .slice none 0 0] 38) = X at *
  go_wp2_with fail
  (with_reducible refine (len58N _).mono ?_)
  rintro e W1 ⟨rfl, rfl⟩
  go_wp2
  refine bodyPost_ret (results_ct rfl _ _ w.heap.size 38 #[.int .i64 0, .slice none 0 0] (0, 0) _ rfl (blk_put (blk_put a0.out 0 _ rfl) 1 _ rfl) Try.underlying38 rfl (by kernel_rfl)) rfl ?_
  exact ⟨rfl, (P0.setCell (Nat.le_refl _) _).setCell (Nat.le_refl _) _⟩
set_option maxHeartbeats 1000000 in
theorem take56N (w : World) : Calls Try.prog 56 #[.pointer none] w (StN (.tuple #[noB, .bool false]) w) := by
  have P0 : Below w.heap.size w (w.alloc (.cells #[.int .i64 0, .slice none 0 0] 38)) := by go_grown
  have a0 : Hid ((w.alloc (.cells #[.int .i64 0, .slice none 0 0] 38)).heap[w.heap.size]? = some (.cells #[.int .i64 0, .slice none 0 0] 38 (0, 0))) := heap_alloc_new w _
  go_enter Try.func56, Try.ntmps56
  go_upto_region 1 with fail
  generalize w.alloc (.cells #[.int .i64 0, .slice none 0 0] 38) = X at *
  go_wp2_with fail
  (with_reducible refine (first55N _).mono ?_)
  rintro e W1 ⟨rfl, hB1⟩
  have hlt : w.heap.size < X.heap.size := blk_lt a0.out
  have a1 : Hid (W1.heap[w.heap.size]? = some (.cells #[.int .i64 0, .slice none 0 0] 38 (0, 0))) := (hB1.block _ hlt).trans a0.out
  have P1 := P0.trans (hB1.mono P0.size)
  have PY : Below W1.heap.size W1 (W1.alloc (.cells #[.int .i64 0, .slice none 0 0] 38)) := by go_grown
  have a2 : Hid ((W1.alloc (.cells #[.int .i64 0, .slice none 0 0] 38)).heap[w.heap.size]? = some (.cells #[.int .i64 0, .slice none 0 0] 38 (0, 0))) := (PY.block _ (blk_lt a1.out)).trans a1.out
  have b2 : Hid ((W1.alloc (.cells #[.int .i64 0, .slice none 0 0] 38)).heap[W1.heap.size]? = some (.cells #[.int .i64 0, .slice none 0 0] 38 (0, 0))) := heap_alloc_new W1 _
  have P2 := P1.trans (PY.mono P1.size)
  clear PY a0 a1 hlt hB1 P0
  go_upto_region 2 with fail
  generalize hz : W1.heap.size = bk at *
  generalize W1.alloc (.cells #[.int .i64 0, .slice none 0 0] 38) = Y at *
  have g0 : Y.cell? ⟨w.heap.size, 0, none⟩ = some (.int .i64 0) := (blk_cell a2.out 0).trans rfl
  have g1 : Y.cell? ⟨w.heap.size, 1, none⟩ = some (.slice none 0 0) := (blk_cell a2.out 1).trans rfl
  have h0 : Y.cell? ⟨bk, 0, none⟩ = some (.int .i64 0) := (blk_cell b2.out 0).trans rfl
  have h1 : Y.cell? ⟨bk, 1, none⟩ = some (.slice none 0 0) := (blk_cell b2.out 1).trans rfl
  have q0 := blk_frozen a2.out
  go_wp2
  refine bodyPost_ret (results_ct rfl _ _ w.heap.size 38 #[.int .i64 0, .slice none 0 0] (0, 0) _ rfl (blk_put (blk_put a2.out 0 _ rfl) 1 _ rfl) Try.underlying38 rfl (by kernel_rfl)) rfl ?_
  exact ⟨rfl, (P2.setCell (Nat.le_refl _) _).setCell (Nat.le_refl _) _⟩
theorem one_b {w : World} {id : Int} {A : Option Addr} {m c : Nat} {ls : List (List Vl)} (hr : RdR w A m ls) (hc : m ≤ c) (hc1 : c ≤ 9223372036854775807) (i0 : -9223372036854775808 ≤ id) (i1 : id ≤ 9223372036854775807) (t : TypeId) : RdB (w.alloc (.cells #[.int .i64 id, .slice A m c] t)) (some ⟨w.heap.size, 0, none⟩) 1 [⟨id, ls⟩] := by
  have eB : (w.alloc (.cells #[.int .i64 id, .slice A m c] t)).heap[w.heap.size]? = some (.cells #[.int .i64 id, .slice A m c] t (0, 0)) := heap_alloc_new w _
  have P : Below w.heap.size w (w.alloc (.cells #[.int .i64 id, .slice A m c] t)) := by go_grown
  refine ⟨rfl, by omega, fun _ => ⟨_, 0, rfl, fun i hi => ?_⟩⟩
  obtain rfl : i = 0 := by omega
  exact ⟨A, m, c, (blk_cell eB 0).trans rfl, (blk_cell eB 1).trans rfl, rdR_below hr P, hc, hc1, i0, i1⟩
set_option maxRecDepth 20000 in
set_option maxHeartbeats 4000000 in
/-- StreamNone. -/
theorem law (id : Int) (A : Option Addr) (m c : Nat) (ls : List (List Vl)) (n : Int) (w : World) (i0 : -9223372036854775808 ≤ id) (i1 : id ≤ 9223372036854775807) (hr : RdR w A m ls) (hc : m ≤ c) (hc1 : c ≤ 9223372036854775807) :
    Calls Try.prog 10 #[.agg #[.int .i64 id, .slice A m c], .int .i64 n] w fun e w' => e = .returned (.bool true) ∧ Below w.heap.size w w' := by
  have P0 : Below w.heap.size w (w.alloc (.cells #[.int .i64 id, .slice A m c] 38)) := by go_grown
  have a0 : (w.alloc (.cells #[.int .i64 id, .slice A m c] 38)).heap[w.heap.size]? = some (.cells #[.int .i64 id, .slice A m c] 38 (0, 0)) := heap_alloc_new w _
  have hr := rdR_below hr P0
  replace a0 := Lib.hid a0
  have hAw := Lib.hid awake13
  go_enter Try.func10, Try.ntmps10
  go_upto_region 1 with fail
  have hlt0 : w.heap.size < (w.alloc (.cells #[.int .i64 id, .slice A m c] 38)).heap.size := blk_lt a0.out
  generalize w.alloc (.cells #[.int .i64 id, .slice A m c] 38) = X at *
  have PY : Below X.heap.size X (X.alloc (.cells #[.int .i64 id, .slice A m c] 38)) := by go_grown
  have hG := Lib.hid (great12 ⟨#[]⟩ none (some ⟨X.heap.size, 0, none⟩) 0 0 1 1 [] [⟨id, ls⟩] (X.alloc (.cells #[.int .i64 id, .slice A m c] 38)) (Nat.zero_le _) ⟨rfl, by omega, fun h => absurd h (by omega)⟩ (one_b hr hc hc1 i0 i1 38))
  have a1 := Lib.hid ((PY.block _ hlt0).trans a0.out)
  have P1 := P0.trans (PY.mono P0.size)
  have e0 : X.cell? ⟨w.heap.size, 0, none⟩ = some (.int .i64 id) := (blk_cell a0.out 0).trans rfl
  have e1 : X.cell? ⟨w.heap.size, 1, none⟩ = some (.slice A m c) := (blk_cell a0.out 1).trans rfl
  go_wp2_with fail
  clear e0 e1
  generalize X.alloc (.cells #[.int .i64 id, .slice A m c] 38) = Y at *
  (with_reducible refine hG.out.mono ?_)
  rintro e W1 ⟨G, rfl, hg, hB1⟩
  have a2 := Lib.hid ((hB1.block _ (blk_lt a1.out)).trans a1.out)
  have P2 := P1.trans (hB1.mono P1.size)
  clear hG a1 PY hB1 hg hlt0 a0 P0 P1
  cases G with
  | true =>
    go_wp2_with fail
    (with_reducible refine (hAw.out _).mono ?_)
    rintro e W2 ⟨rfl, hB⟩
    go_wp2
    go_ret
    exact ⟨rfl, P2.trans (hB.mono P2.size)⟩
  | false =>
  go_wp2_with fail
  (with_reducible refine (first55N _).mono ?_)
  rintro e W2 ⟨rfl, hB2⟩
  have a3 := Lib.hid ((hB2.block _ (blk_lt a2.out)).trans a2.out)
  have P3 := P2.trans (hB2.mono P2.size)
  clear hB2 a2 P2
  go_upto_region 6 with fail
  have PZ : Below W2.heap.size W2 (W2.alloc (.cells #[.int .i64 0, .slice none 0 0] 38)) := by go_grown
  have a4 := Lib.hid ((PZ.block _ (blk_lt a3.out)).trans a3.out)
  have c4 : Hid ((W2.alloc (.cells #[.int .i64 0, .slice none 0 0] 38)).heap[W2.heap.size]? = some (.cells #[.int .i64 0, .slice none 0 0] 38 (0, 0))) := heap_alloc_new W2 _
  have P4 := P3.trans (PZ.mono P3.size)
  clear PZ a3 P3
  generalize W2.alloc (.cells #[.int .i64 0, .slice none 0 0] 38) = Z at *
  generalize W2.heap.size = b7 at *
  go_wp2_with fail
  (with_reducible refine (take56N _).mono ?_)
  rintro e W3 ⟨rfl, hB3⟩
  have a5 := Lib.hid ((hB3.block _ (blk_lt a4.out)).trans a4.out)
  have c5 := Lib.hid ((hB3.block _ (blk_lt c4.out)).trans c4.out)
  have P5 := P4.trans (hB3.mono P4.size)
  clear hB3 a4 c4 P4
  go_upto_region 7 with fail
  have PV : Below W3.heap.size W3 (W3.alloc (.cells #[.int .i64 0, .slice none 0 0] 38)) := by go_grown
  have a6 := Lib.hid ((PV.block _ (blk_lt a5.out)).trans a5.out)
  have c6 := Lib.hid ((PV.block _ (blk_lt c5.out)).trans c5.out)
  have d6 : Hid ((W3.alloc (.cells #[.int .i64 0, .slice none 0 0] 38)).heap[W3.heap.size]? = some (.cells #[.int .i64 0, .slice none 0 0] 38 (0, 0))) := heap_alloc_new W3 _
  have P6 := P5.trans (PV.mono P5.size)
  clear PV a5 c5 P5
  generalize W3.alloc (.cells #[.int .i64 0, .slice none 0 0] 38) = V at *
  generalize W3.heap.size = b9 at *
  have e0 : V.cell? ⟨w.heap.size, 0, none⟩ = some (.int .i64 id) := (blk_cell a6.out 0).trans rfl
  have e1 : V.cell? ⟨w.heap.size, 1, none⟩ = some (.slice A m c) := (blk_cell a6.out 1).trans rfl
  have f0 : V.cell? ⟨b7, 0, none⟩ = some (.int .i64 0) := (blk_cell c6.out 0).trans rfl
  have f1 : V.cell? ⟨b7, 1, none⟩ = some (.slice none 0 0) := (blk_cell c6.out 1).trans rfl
  have g0 : V.cell? ⟨b9, 0, none⟩ = some (.int .i64 0) := (blk_cell d6.out 0).trans rfl
  have g1 : V.cell? ⟨b9, 1, none⟩ = some (.slice none 0 0) := (blk_cell d6.out 1).trans rfl
  clear a6 c6 d6
  have hS : Hid (∀ W, Calls Try.prog 24 #[.agg #[.int .i64 0, .slice none 0 0], .agg #[.int .i64 0, .slice none 0 0]] W fun e w' => e = .returned (.bool true) ∧ Below W.heap.size W w') := fun W =>
    same24 0 0 none none 0 0 0 0 [] [] W ⟨rfl, by omega, fun h => absurd h (by omega)⟩ ⟨rfl, by omega, fun h => absurd h (by omega)⟩
  go_wp2_with fail
  (with_reducible refine (name16N _).mono ?_)
  rintro e W ⟨rfl, rfl⟩
  go_wp2_with fail
  (with_reducible refine (check19N id A m c _).mono ?_)
  rintro e U1 ⟨rfl, hB⟩
  have e0 := pw_cell_below hB e0
  have e1 := pw_cell_below hB e1
  have f0 := pw_cell_below hB f0
  have f1 := pw_cell_below hB f1
  have g0 := pw_cell_below hB g0
  have g1 := pw_cell_below hB g1
  have P7 := P6.trans (hB.mono P6.size)
  clear hB P6
  go_wp2_with fail
  (with_reducible refine (take21N id A m c _).mono ?_)
  rintro e U2 ⟨rfl, hB⟩
  have e0 := pw_cell_below hB e0
  have e1 := pw_cell_below hB e1
  have f0 := pw_cell_below hB f0
  have f1 := pw_cell_below hB f1
  have g0 := pw_cell_below hB g0
  have g1 := pw_cell_below hB g1
  have P8 := P7.trans (hB.mono P7.size)
  clear hB P7
  go_wp2_with fail
  (with_reducible refine (mark20N _).mono ?_)
  rintro e W ⟨rfl, rfl⟩
  go_wp2_with fail
  (with_reducible refine (set17N n _).mono ?_)
  rintro e W ⟨rfl, rfl⟩
  go_wp2_with fail
  (with_reducible refine (put54N id A m c _).mono ?_)
  rintro e U3 ⟨rfl, hB⟩
  have f0 := pw_cell_below hB f0
  have f1 := pw_cell_below hB f1
  have g0 := pw_cell_below hB g0
  have g1 := pw_cell_below hB g1
  have P9 := P8.trans (hB.mono P8.size)
  clear hB P8
  go_wp2_with fail
  (with_reducible refine (hS.out _).mono ?_)
  rintro e U4 ⟨rfl, hB⟩
  have g0 := pw_cell_below hB g0
  have g1 := pw_cell_below hB g1
  have P10 := P9.trans (hB.mono P9.size)
  clear hB P9
  go_wp2_with fail
  (with_reducible refine (hS.out _).mono ?_)
  rintro e U5 ⟨rfl, hB⟩
  have P11 := P10.trans (hB.mono P10.size)
  clear hB P10
  go_wp2_with fail
  (with_reducible refine (len58N _).mono ?_)
  rintro e W ⟨rfl, rfl⟩
  go_wp2_with fail
  (with_reducible refine (rows59N _).mono ?_)
  rintro e W ⟨rfl, rfl⟩
  have PQ : Below U5.heap.size U5 (U5.alloc (.cells #[.int .i64 n] 3)) := by go_grown
  have P12 := P11.trans (PQ.mono P11.size)
  clear PQ P11
  go_wp2_with fail
  (with_reducible refine (batches60N _ _ _ _).mono ?_)
  rintro e W ⟨rfl, rfl⟩
  go_wp2_with fail
  (with_reducible refine (hAw.out _).mono ?_)
  rintro e U6 ⟨rfl, hB⟩
  go_wp2
  go_ret
  exact ⟨rfl, P12.trans (hB.mono P12.size)⟩
end Go.Proofs.Ytegkclehijdbiaa.SN
