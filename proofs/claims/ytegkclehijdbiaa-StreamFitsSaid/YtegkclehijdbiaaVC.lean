import Derived.Test.YtegkclehijdbiaaVB
import Derived.Test.YtegkclehijdbiaaV7
set_option linter.unusedSimpArgs false
set_option linter.unusedVariables false
namespace Go.Proofs.Ytegkclehijdbiaa.VC
open Go.RowKit Go.Proofs.YtegkclehijdbiaaW.PrintWords Go.Proofs.YtegkclehijdbiaaW.PrintLast Go.Proofs.Ytegkclehijdbiaa.V1 Go.Proofs.Ytegkclehijdbiaa.V2 Go.Proofs.Ytegkclehijdbiaa.V3 Go.Proofs.Ytegkclehijdbiaa.V4 Go.Proofs.Ytegkclehijdbiaa.V5 Go.Proofs.Ytegkclehijdbiaa.V6 Go.Proofs.Ytegkclehijdbiaa.V8 Go.Proofs.Ytegkclehijdbiaa.V9 Go.Proofs.Ytegkclehijdbiaa.VA Go.Proofs.Ytegkclehijdbiaa.VB

def aC : List Cl := [⟨⟨#[97]⟩, 1⟩]
theorem rd_none {α : Type} [Inhabited α] {sz : Nat} {P : World → Nat → Nat → α → Prop} (w : World) : Rd sz P w none 0 ([] : List α) := ⟨rfl, by omega, fun h => absurd h (by omega)⟩
theorem aC_right : rightB ⟨#[115]⟩ aC = true := by decide
theorem c1 : chk aC [] 1 0 = 0 := by decide
theorem c2 : chk aC [] 3 1 = 10 := by decide
theorem c3 : chk aC [] 1 1 = 9 := by decide

set_option maxRecDepth 8000 in
set_option maxHeartbeats 1000000 in
/-- The document's example. -/
theorem awake13 (w : World) : Calls Try.prog 13 #[] w fun e w' => e = .returned (.bool true) ∧ Below w.heap.size w w' := by
  have P0 : Below w.heap.size w (w.alloc (.cells #[.string ⟨#[97]⟩, .int .i64 1] 109)) := by go_grown
  have rc : RdC (w.alloc (.cells #[.string ⟨#[97]⟩, .int .i64 1] 109)) (some ⟨w.heap.size, 0, none⟩) 1 aC := by
    refine ⟨rfl, by omega, fun _ => ⟨_, _, rfl, fun i hi => ?_⟩⟩
    obtain rfl : i = 0 := by omega
    exact ⟨by go_simp; rfl, by go_simp; rfl, by decide, by decide, by decide⟩
  go_enter Try.func13, Try.ntmps13
  go_wp2_with fail
  generalize w.alloc (.cells #[.string ⟨#[97]⟩, .int .i64 1] 109) = W0 at *
  (with_reducible refine (border14 _ _ 1 1 aC _ (by decide) rc (by omega)).mono ?_)
  rintro e W1 (⟨hr, _⟩ | ⟨hr, g, rfl, hg, hb, hB⟩)
  · rw [aC_right] at hr; cases hr
  have P1 := P0.trans (hB.mono P0.size)
  have hgw : w.heap.size ≤ g := by have := P0.size; omega
  clear rc hr hB
  go_wp2_with fail
  (with_reducible refine (take21 g _ aC 0 1 none 0 0 [] _ hb (rd_none _) (by omega) (by omega) (by omega) (by omega)).mono ?_)
  rintro e W2 ⟨rfl, hb2, hB2⟩
  rw [c1] at hb2 ⊢
  have P2 := P1.trans (hB2 _ hgw P1.size)
  rw [if_pos rfl] at hb2
  clear hb hB2
  go_wp2_with fail
  (with_reducible refine (take21 g _ aC 1 3 none 0 0 [] _ hb2 (rd_none _) (by omega) (by omega) (by omega) (by omega)).mono ?_)
  rintro e W3 ⟨rfl, hb3, hB3⟩
  rw [c2] at hb3 ⊢
  have P3 := P2.trans (hB3 _ hgw P2.size)
  rw [if_neg (by decide)] at hb3
  clear hb2 hB3
  go_wp2_with fail
  (with_reducible refine (take21 g _ aC 1 1 none 0 0 [] _ hb3 (rd_none _) (by omega) (by omega) (by omega) (by omega)).mono ?_)
  rintro e W4 ⟨rfl, hb4, hB4⟩
  rw [c3] at hb4 ⊢
  have P4 := P3.trans (hB4 _ hgw P3.size)
  rw [if_neg (by decide)] at hb4
  clear hb3 hB4
  go_wp2_with fail
  (with_reducible refine (mark20 g _ aC 1 _ hb4).mono ?_)
  rintro e W5 ⟨rfl, rfl⟩
  go_wp2
  go_ret
  exact ⟨rfl, P4⟩
end Go.Proofs.Ytegkclehijdbiaa.VC
