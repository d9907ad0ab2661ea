import Derived.Test.YtegkclehijdbiaaMC
set_option linter.unusedSimpArgs false
set_option linter.unusedVariables false
namespace Go.Proofs.Ytegkclehijdbiaa.CN
open Go.RowKit Go.Proofs.YtegkclehijdbiaaW.PrintWords Go.Proofs.Ytegkclehijdbiaa.V1 Go.Proofs.Ytegkclehijdbiaa.V2 Go.Proofs.Ytegkclehijdbiaa.V3 Go.Proofs.Ytegkclehijdbiaa.N1 Go.Proofs.Ytegkclehijdbiaa.N2 Go.Proofs.Ytegkclehijdbiaa.N3 Go.Proofs.Ytegkclehijdbiaa.CA Go.Proofs.Ytegkclehijdbiaa.CB Go.Proofs.Ytegkclehijdbiaa.CC Go.Proofs.Ytegkclehijdbiaa.CD
open Go.Proofs.YtegkclehijdbiaaW.PrintLast hiding takeB

/-- What a method of no reader leaves: a result, and the world. -/
def SameW (r : Value) (w : World) (e : Ending) (w' : World) : Prop := e = .returned r ∧ w = w'
set_option maxHeartbeats 400000 in
theorem good52N (w : World) : Calls Try.prog 52 #[.pointer none] w (SameW (.bool false) w) := by
  go_enter Try.func52, Try.ntmps52
  go_wp2
  go_ret
  exact ⟨rfl, rfl⟩
set_option maxHeartbeats 400000 in
theorem fail87N (w : World) : Calls Try.prog 87 #[.pointer none] w (SameW (.tuple #[]) w) := by
  go_enter Try.func87, Try.ntmps87
  go_wp2
  go_end0
  exact ⟨rfl, rfl⟩
set_option maxHeartbeats 400000 in
theorem cut90N (n : Int) (w : World) : Calls Try.prog 90 #[.pointer none, .int .i64 n] w (SameW (.slice none 0 0) w) := by
  go_enter Try.func90, Try.ntmps90
  go_wp2_with fail
  (with_reducible refine (good52N _).mono ?_)
  rintro e W ⟨rfl, rfl⟩
  go_wp2_with fail
  (with_reducible refine (fail87N _).mono ?_)
  rintro e W ⟨rfl, rfl⟩
  go_wp2
  go_ret
  exact ⟨rfl, rfl⟩
set_option maxHeartbeats 400000 in
theorem byte101N (w : World) : Calls Try.prog 101 #[.pointer none] w (SameW (.int .i64 0) w) := by
  have hn : ∀ W : World, (binOp .eql 60 (.slice none 0 0) (.slice none 0 0)).run Try.prog W = .ok (.bool true) W := fun W => by kernel_rfl
  go_enter Try.func101, Try.ntmps101
  go_wp2_with fail
  (with_reducible refine (cut90N 1 _).mono ?_)
  rintro e W ⟨rfl, rfl⟩
  go_wp2
  go_ret
  exact ⟨rfl, rfl⟩
set_option maxHeartbeats 1000000 in
theorem number89N (w : World) : Calls Try.prog 89 #[.pointer none] w (SameW (.int .u64 0) w) := by
  go_enter Try.func89, Try.ntmps89
  go_wp2_with fail
  (with_reducible refine (byte101N _).mono ?_)
  rintro e W ⟨rfl, rfl⟩
  go_wp2_with fail
  (with_reducible refine (cut90N 0 _).mono ?_)
  rintro e W ⟨rfl, rfl⟩
  go_wp2
  go_loopw [30, 5] (fun i u wr => i = .int .i64 0 ∧ u = .int .u64 0 ∧ wr = w) (fun _ _ _ => 0)
  case atStart => exact ⟨rfl, rfl, rfl⟩
  case round =>
    obtain ⟨rfl, rfl, rfl⟩ := hrel
    go_wp2
    go_ret
    exact ⟨rfl, rfl⟩
set_option maxHeartbeats 1000000 in
theorem signed47N (w : World) : Calls Try.prog 47 #[.pointer none] w (SameW (.int .i64 0) w) := by
  go_enter Try.func47, Try.ntmps47
  go_wp2_with fail
  (with_reducible refine (number89N _).mono ?_)
  rintro e W1 ⟨rfl, rfl⟩
  go_wp2
  go_ret
  exact ⟨by first | rfl | kernel_rfl, rfl⟩
set_option maxHeartbeats 1000000 in
theorem size71N (most : Int) (w : World) : Calls Try.prog 71 #[.pointer none, .int .i64 most] w (SameW (.int .i64 0) w) := by
  go_enter Try.func71, Try.ntmps71
  go_wp2_with fail
  (with_reducible refine (number89N _).mono ?_)
  rintro e W1 ⟨rfl, rfl⟩
  go_wp2_with fail
  (with_reducible refine (good52N _).mono ?_)
  rintro e W1 ⟨rfl, rfl⟩
  go_wp2_with fail
  (with_reducible refine (good52N _).mono ?_)
  rintro e W1 ⟨rfl, rfl⟩
  go_wp2
  go_ret
  exact ⟨rfl, rfl⟩
set_option maxHeartbeats 1000000 in
theorem text48N (most : Int) (w : World) : Calls Try.prog 48 #[.pointer none, .int .i64 most] w (SameW (.string ⟨#[]⟩) w) := by
  go_enter Try.func48, Try.ntmps48
  go_wp2_with fail
  (with_reducible refine (size71N _ _).mono ?_)
  rintro e W1 ⟨rfl, rfl⟩
  go_wp2_with fail
  (with_reducible refine (cut90N _ _).mono ?_)
  rintro e W1 ⟨rfl, rfl⟩
  have hT := to_string (W := w) (A := none) (n := 0) (c := 0) (l := []) (rdU_nil _ _)
  go_wp2
  go_ret
  exact ⟨rfl, rfl⟩
/-- As before, of a method that may lay something of its own. -/
def StN (r : Value) (w : World) (e : Ending) (w' : World) : Prop := e = .returned r ∧ Below w.heap.size w w'
set_option maxRecDepth 8000 in
set_option maxHeartbeats 2000000 in
theorem value82N (w : World) : Calls Try.prog 82 #[.pointer none] w (StN zV.agg w) := by
  have a0 : (w.alloc (.cells #[.int .i64 0, .int .i64 0, .string ⟨#[]⟩] 56)).heap[w.heap.size]? = some (vB 0 0 ⟨#[]⟩) := heap_alloc_new w _
  have P0 : Below w.heap.size w (w.alloc (.cells #[.int .i64 0, .int .i64 0, .string ⟨#[]⟩] 56)) := by go_grown
  have a0 := Lib.hid a0
  go_enter Try.func82, Try.ntmps82
  go_wp2_with fail
  generalize w.alloc (.cells #[.int .i64 0, .int .i64 0, .string ⟨#[]⟩] 56) = X at *
  (with_reducible refine (byte101N _).mono ?_)
  rintro e W1 ⟨rfl, rfl⟩
  have hb0 : w.heap.size < X.heap.size := by have := blk_lt a0.out; exact this
  go_upto_region 2 with fail
  have PA : Below X.heap.size X (X.alloc (.cells #[.int .i64 0, .int .i64 0, .string ⟨#[]⟩] 56)) := by go_grown
  have b2 : Hid ((X.alloc (.cells #[.int .i64 0, .int .i64 0, .string ⟨#[]⟩] 56)).heap[X.heap.size]? = some (vB 0 0 ⟨#[]⟩)) := heap_alloc_new X _
  have a2 : Hid ((X.alloc (.cells #[.int .i64 0, .int .i64 0, .string ⟨#[]⟩] 56)).heap[w.heap.size]? = some (vB 0 0 ⟨#[]⟩)) := (PA.block _ hb0).trans a0.out
  have K2 : Below w.heap.size w (X.alloc (.cells #[.int .i64 0, .int .i64 0, .string ⟨#[]⟩] 56)) := P0.trans (PA.mono (Nat.le_of_lt hb0))
  generalize hbk : X.heap.size = bk at *
  generalize X.alloc (.cells #[.int .i64 0, .int .i64 0, .string ⟨#[]⟩] 56) = V at *
  have f0 : V.cell? ⟨bk, 0, none⟩ = some (.int .i64 0) := (blk_cell b2.out 0).trans rfl
  have d1 : V.cell? ⟨bk, 1, none⟩ = some (.int .i64 0) := (blk_cell b2.out 1).trans rfl
  have d2 : V.cell? ⟨bk, 2, none⟩ = some (.string ⟨#[]⟩) := (blk_cell b2.out 2).trans rfl
  have PA4 : Below V.heap.size V (V.alloc (.cells #[.int .i64 0, .int .i64 0, .string ⟨#[]⟩] 56)) := by go_grown
  have rv : RdV (V.alloc (.cells #[.int .i64 0, .int .i64 0, .string ⟨#[]⟩] 56)) (some ⟨V.heap.size, 0, none⟩) 1 [⟨0, 0, ⟨#[]⟩⟩] := by
    refine ⟨rfl, by omega, fun _ => ⟨_, _, rfl, fun i hi => ?_⟩⟩
    obtain rfl : i = 0 := by omega
    exact ⟨by go_simp; rfl, by go_simp; rfl, by go_simp; rfl, vfit (by omega) (by omega) (by omega) (by omega) (Nat.zero_le _)⟩
  have a5 := Lib.hid ((PA4.block _ (blk_lt a2.out)).trans a2.out)
  have K5 := K2.trans (PA4.mono K2.size)
  go_wp2_with fail
  clear d1 d2 f0
  generalize V.alloc (.cells #[.int .i64 0, .int .i64 0, .string ⟨#[]⟩] 56) = Y at *
  (with_reducible refine (right97 _ 1 1 [⟨0, 0, ⟨#[]⟩⟩] _ rv).mono ?_)
  rintro e W6 ⟨rfl, hB6⟩
  have a6 := Lib.hid ((hB6.block _ (blk_lt a5.out)).trans a5.out)
  have K6 := K5.trans (hB6.mono K5.size)
  rw [show allV [(⟨0, 0, ⟨#[]⟩⟩ : Vl)] 1 = false by simp [allV, el, okV]]
  go_wp2_with fail
  (with_reducible refine (fail87N _).mono ?_)
  rintro e W8 ⟨rfl, rfl⟩
  go_wp2_with fail
  (with_reducible refine (good52N _).mono ?_)
  rintro e W8 ⟨rfl, rfl⟩
  have g0 : W6.cell? ⟨w.heap.size, 0, none⟩ = some (.int .i64 0) := (blk_cell a6.out 0).trans rfl
  have g1 : W6.cell? ⟨w.heap.size, 1, none⟩ = some (.int .i64 0) := (blk_cell a6.out 1).trans rfl
  have g2 : W6.cell? ⟨w.heap.size, 2, none⟩ = some (.string ⟨#[]⟩) := (blk_cell a6.out 2).trans rfl
  have q0 := blk_frozen a6.out
  go_wp2
  refine bodyPost_ret (results_cell_row rfl _ _ w.heap.size 56 #[.int .i64 0, .int .i64 0, .string ⟨#[]⟩] (0, 0) _ rfl (blk_put (blk_put (blk_put a6.out 0 _ rfl) 1 _ rfl) 2 _ rfl) Try.underlying56 rfl (by kernel_rfl)) rfl ?_
  exact ⟨rfl, ((K6.setCell (Nat.le_refl _) _).setCell (Nat.le_refl _) _).setCell (Nat.le_refl _) _⟩
set_option maxHeartbeats 1000000 in
theorem row72N (most : Int) (w : World) : Calls Try.prog 72 #[.pointer none, .int .i64 most] w (SameW (.slice none 0 0) w) := by
  go_enter Try.func72, Try.ntmps72
  go_wp2_with fail
  (with_reducible refine (size71N _ _).mono ?_)
  rintro e W1 ⟨rfl, rfl⟩
  go_wp2
  go_loopw [5, 6] (fun u i wr => u = .slice none 0 0 ∧ i = .int .i64 0 ∧ wr = w) (fun _ _ _ => 0)
  case atStart => exact ⟨rfl, rfl, rfl⟩
  case round =>
    obtain ⟨rfl, rfl, rfl⟩ := hrel
    go_wp2_with fail
    (with_reducible refine (good52N _).mono ?_)
    rintro e W1 ⟨rfl, rfl⟩
    go_wp2
    go_ret
    exact ⟨rfl, rfl⟩
set_option maxHeartbeats 1000000 in
theorem rows50N (most cols : Int) (w : World) : Calls Try.prog 50 #[.pointer none, .int .i64 most, .int .i64 cols] w (SameW (.slice none 0 0) w) := by
  go_enter Try.func50, Try.ntmps50
  go_wp2_with fail
  (with_reducible refine (size71N _ _).mono ?_)
  rintro e W1 ⟨rfl, rfl⟩
  go_wp2
  go_loopw [7, 8] (fun u i wr => u = .slice none 0 0 ∧ i = .int .i64 0 ∧ wr = w) (fun _ _ _ => 0)
  case atStart => exact ⟨rfl, rfl, rfl⟩
  case round =>
    obtain ⟨rfl, rfl, rfl⟩ := hrel
    go_wp2_with fail
    (with_reducible refine (good52N _).mono ?_)
    rintro e W1 ⟨rfl, rfl⟩
    go_wp2
    go_ret
    exact ⟨rfl, rfl⟩
set_option maxHeartbeats 400000 in
theorem len88N (w : World) : Calls Try.prog 88 #[.pointer none] w (SameW (.int .i64 0) w) := by
  go_enter Try.func88, Try.ntmps88
  go_wp2
  go_ret
  exact ⟨rfl, rfl⟩
set_option maxHeartbeats 400000 in
theorem string51N (w : World) : Calls Try.prog 51 #[.pointer none] w (SameW (.string ⟨#[]⟩) w) := by
  go_enter Try.func51, Try.ntmps51
  go_wp2
  go_ret
  exact ⟨rfl, rfl⟩
set_option maxHeartbeats 400000 in
theorem end73N (w : World) : Calls Try.prog 73 #[.pointer none] w (SameW (.bool false) w) := by
  go_enter Try.func73, Try.ntmps73
  go_wp2_with fail
  (with_reducible refine (good52N _).mono ?_)
  rintro e W1 ⟨rfl, rfl⟩
  go_wp2
  go_ret
  exact ⟨rfl, rfl⟩
set_option maxHeartbeats 400000 in
theorem len43N (w : World) : Calls Try.prog 43 #[.pointer none] w (SameW (.int .i64 0) w) := by
  go_enter Try.func43, Try.ntmps43
  go_wp2
  go_ret
  exact ⟨rfl, rfl⟩
set_option maxHeartbeats 400000 in
theorem string42N (w : World) : Calls Try.prog 42 #[.pointer none] w (SameW (.string ⟨#[]⟩) w) := by
  go_enter Try.func42, Try.ntmps42
  go_wp2
  go_ret
  exact ⟨rfl, rfl⟩
end Go.Proofs.Ytegkclehijdbiaa.CN
