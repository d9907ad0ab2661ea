-- printed by a program of this session's over the seat's translation; Lean checks it
import Derived.Test.YtchjlcchggeonaaPLexx0
namespace Go.Proofs.Ytchjlcchggeonaa.PLex
open Go.RowKit Go.Proofs.YtchjlcchggeonaaW.PrintWords Go.Proofs.YtchjlcchggeonaaW.PrintLast Go.Proofs.YtchjlcchggeonaaW.PrintMore
attribute [local go_sem] max2_int min2_int max_two min_two max_three min_three max_four min_four   -- for this text's walks alone
set_option linter.unusedVariables false
set_option linter.unusedSimpArgs false

/-! ### schema_named: function 35 -/

def schema_named.f (a0 : ByteArray) : Option Bool := if a0.size ≤ 9223372036854775807 then some (Go.Proofs.Ytchjlcchggeonaa.HN.namB a0) else none
theorem schema_named.calls (a0 : ByteArray) (r : Bool) (w : World) (h : schema_named.f a0 = some r) :
    Calls Try.prog 35 #[.string a0] w fun e w' => e = .returned (.bool r) ∧ Below w.heap.size w w' := by
  unfold schema_named.f at h
  split at h
  · rename_i hs
    obtain rfl := Option.some.inj h
    exact Go.Proofs.Ytchjlcchggeonaa.HN.named35 a0 w hs
  · cases h


end Go.Proofs.Ytchjlcchggeonaa.PLex
