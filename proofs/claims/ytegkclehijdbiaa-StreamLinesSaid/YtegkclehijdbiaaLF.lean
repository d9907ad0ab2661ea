import Derived.Test.YtegkclehijdbiaaLB
set_option linter.unusedSimpArgs false
set_option linter.unusedVariables false
namespace Go.Proofs.Ytegkclehijdbiaa.LF
open Go.RowKit Go.Proofs.YtegkclehijdbiaaW.PrintWords Go.Proofs.Ytegkclehijdbiaa.V1 Go.Proofs.Ytegkclehijdbiaa.V2 Go.Proofs.Ytegkclehijdbiaa.V3 Go.Proofs.Ytegkclehijdbiaa.V6 Go.Proofs.Ytegkclehijdbiaa.V9 Go.Proofs.Ytegkclehijdbiaa.VD Go.Proofs.Ytegkclehijdbiaa.RD Go.Proofs.Ytegkclehijdbiaa.LB
open Go.Proofs.YtegkclehijdbiaaW.PrintLast hiding takeB

/-- What NewLine leaves. -/
def NlR (w : World) (nm : ByteArray) (n : Nat) (cs : List Cl) (room : Int) (e : Ending) (w' : World) : Prop :=
  ((rightB nm cs = false ∨ room < 1) ∧ e = .returned (.tuple #[.pointer none, .int .i64 1]) ∧ Below w.heap.size w w') ∨
  (rightB nm cs = true ∧ 1 ≤ room ∧ ∃ wB g B d, e = .returned (.tuple #[.pointer (some ⟨g, 0, none⟩), .int .i64 0]) ∧ Below w.heap.size w wB ∧ RdC wB B n cs ∧ Ln wB w' g nm B n d room (.slice none 0 0) [] (fun _ => False))
set_option maxRecDepth 8000 in
set_option maxHeartbeats 1000000 in
theorem line53 (nm : ByteArray) (A : Option Addr) (n c : Nat) (cs : List Cl) (room : Int) (w : World) (hnm : nm.size ≤ 9223372036854775807) (hc : RdC w A n cs) (hn : n ≤ 1000000) : Calls Try.prog 53 #[.agg #[.string nm, .slice A n c], .int .i64 room] w (NlR w nm n cs room) := by
  have P0 : Below w.heap.size w (w.alloc (.cells #[.string nm, .slice A n c] 24)) := by go_grown
  have a0 : (w.alloc (.cells #[.string nm, .slice A n c] 24)).heap[w.heap.size]? = some (.cells #[.string nm, .slice A n c] 24 (0, 0)) := heap_alloc_new w _
  have e0 : (w.alloc (.cells #[.string nm, .slice A n c] 24)).cell? ⟨w.heap.size, 0, none⟩ = some (.string nm) := (blk_cell a0 0).trans rfl
  have e1 : (w.alloc (.cells #[.string nm, .slice A n c] 24)).cell? ⟨w.heap.size, 1, none⟩ = some (.slice A n c) := (blk_cell a0 1).trans rfl
  have hO := Lib.hid (open64 nm A n c cs _ hnm (rdC_below hc P0) hn)
  clear a0
  go_enter Try.func53, Try.ntmps53
  go_upto_region 1 with fail
  generalize w.alloc (.cells #[.string nm, .slice A n c] 24) = V at *
  go_wp2_with fail
  (with_reducible refine hO.out.mono ?_)
  rintro e W1 (⟨hr, rfl, hB⟩ | ⟨hr, B, d, rfl, rc, nd, dm, hB⟩)
  · have P1 := P0.trans (hB.mono P0.size)
    have PY : Below W1.heap.size W1 (W1.alloc (.cells #[.string ⟨#[]⟩, .slice none 0 0] 111)) := by go_grown
    clear e0 e1
    go_wp2
    go_ret2
    exact .inl ⟨.inl hr, rfl, P1.trans (PY.mono P1.size)⟩
  · have P1 := P0.trans (hB.mono P0.size)
    have PY : Below W1.heap.size W1 (W1.alloc (.cells #[.string nm, .slice B n d] 111)) := by go_grown
    have y0 : (W1.alloc (.cells #[.string nm, .slice B n d] 111)).heap[W1.heap.size]? = some (.cells #[.string nm, .slice B n d] 111 (0, 0)) := heap_alloc_new W1 _
    clear e0 e1
    by_cases h1 : room < 1
    · go_wp2
      go_ret2
      exact .inl ⟨.inr h1, rfl, P1.trans (PY.mono P1.size)⟩
    · have f0 : (W1.alloc (.cells #[.string nm, .slice B n d] 111)).cell? ⟨W1.heap.size, 0, none⟩ = some (.string nm) := (blk_cell y0 0).trans rfl
      have f1 : (W1.alloc (.cells #[.string nm, .slice B n d] 111)).cell? ⟨W1.heap.size, 1, none⟩ = some (.slice B n d) := (blk_cell y0 1).trans rfl
      have hsY : (W1.alloc (.cells #[.string nm, .slice B n d] 111)).heap.size = W1.heap.size + 1 := W4.alloc_sz _ _
      clear y0
      go_upto_region 2 with fail
      generalize W1.alloc (.cells #[.string nm, .slice B n d] 111) = Y at *
      have PZ : Below Y.heap.size Y (Y.alloc (.cells #[.string nm, .slice B n d, .slice none 0 0, .int .i64 room, .int .i64 0] 135)) := by go_grown
      have z0 : Hid ((Y.alloc (.cells #[.string nm, .slice B n d, .slice none 0 0, .int .i64 room, .int .i64 0] 135)).heap[W1.heap.size + 1]? = some (.cells #[.string nm, .slice B n d, .slice none 0 0, .int .i64 room, .int .i64 0] 135 (0, 0))) := by show _ = _; rw [← hsY]; exact heap_alloc_new Y _
      go_wp2
      go_ret2
      refine .inr ⟨hr, by omega, W1, W1.heap.size + 1, B, d, rfl, P1, rc, ?_⟩
      constructor
      · exact PY.trans (PZ.mono (by omega))
      · exact z0.out
      · omega
      · exact q_of_own (CF.own_nil _ _ _ _)
      · intro p hp; cases hp
      · intro k hk; cases hk
      · intro p hp; cases hp
end Go.Proofs.Ytegkclehijdbiaa.LF
