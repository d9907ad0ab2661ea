import Derived.Test.YtmipifokpogpbaaMU
import Derived.Test.YtmipifokpogpbaaR9
set_option linter.unusedSimpArgs false
set_option linter.unusedVariables false
namespace Go.Proofs.Ytmipifokpogpbaa.BR
open Go.RowKit Go.Proofs.YtmipifokpogpbaaW.PrintWords Go.Proofs.YtmipifokpogpbaaW.PrintLast Go.Proofs.Ytmipifokpogpbaa.C1 Go.Proofs.Ytmipifokpogpbaa.C2 Go.Proofs.Ytmipifokpogpbaa.C3 Go.Proofs.Ytmipifokpogpbaa.MU

/-- The reference's contracts, in the words of the other side. -/
theorem sumK_eq (l : List Int) (m : Bool) : ∀ k, R8.sumK l m k = sumI l m k
  | 0 => rfl
  | k + 1 => by simp only [R8.sumK, sumI, sumK_eq l m k]; rfl
theorem prodK_eq (l : List Int) : ∀ k, R9.prodK l k = prodI l k
  | 0 => rfl
  | k + 1 => by simp only [R9.prodK, prodI, prodK_eq l k]
theorem sumI_ok {l : List Int} (h : In64 l) (m : Bool) (k : Nat) (hk : k ≤ l.length) (h1 : k ≤ 100000) : -10 ^ 1000000 < sumI l m k ∧ sumI l m k < 10 ^ 1000000 := by
  rw [← sumK_eq]; exact R8.big_ok (R8.sumK_bd h m k hk) h1
theorem prodI_ok {l : List Int} (h : In64 l) (k : Nat) (hk : k ≤ l.length) (h1 : k ≤ 1000) : -10 ^ 1000000 < prodI l k ∧ prodI l k < 10 ^ 1000000 := by
  rw [← prodK_eq]; exact R9.prodK_ok h k hk h1
theorem sumR (m : Bool) (A : Option Addr) (n c : Nat) (l : List Int) (w : World) (hr : ReadsInt w .i64 A n l) (h64 : In64 l) (hn : n ≤ 100000) : Calls Try.prog 21 #[.slice A n c, .bool m] w (R2.NumR w (sumI l m n)) := by
  rw [← sumK_eq]
  cases m
  · exact R8.sum_false A n c l w hr h64 hn
  · exact R8.sum_true A n c l w hr h64 hn
theorem prodR (A : Option Addr) (n c : Nat) (l : List Int) (w : World) (hr : ReadsInt w .i64 A n l) (h64 : In64 l) (hn : n ≤ 1000) : Calls Try.prog 30 #[.slice A n c] w (R2.NumR w (prodI l n)) := by
  rw [← prodK_eq]; exact R9.product A n c l w hr h64 hn
theorem told (v : Value) (x : Int) (w : World) (h : R2.Num w v x) (hx : -10 ^ 1000000 < x ∧ x < 10 ^ 1000000) :
    Calls Try.prog 13 #[v, .int .i64 (smV x), .int .i64 (erV x)] w fun e w' => e = .returned (.bool true) ∧ Below w.heap.size w w' := R7.told v x w h hx.1 hx.2
/-- Small enough to be told. -/
def Sm (x : Int) : Prop := -10 ^ 1000000 < x ∧ x < 10 ^ 1000000
theorem add_ok {l : List Int} (h : In64 l) (m : Bool) (k : Nat) (hk : k ≤ l.length) (h1 : k ≤ 10000) {a : Int} (a1 : -9223372036854775808 ≤ a) (a2 : a ≤ 9223372036854775807) : -10 ^ 1000000 < a + sumI l m k ∧ a + sumI l m k < 10 ^ 1000000 := by
  have := R8.sumK_bd h m k hk
  rw [sumK_eq] at this
  exact R8.big_ok (k := k + 1) (by push_cast; omega) (by omega)
end Go.Proofs.Ytmipifokpogpbaa.BR
