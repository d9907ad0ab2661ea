/- The plain law of LexStands: it is true for every text. -/
import Derived.Test.YtchjlcchggeonaaPM
namespace Go.Proofs.Ytchjlcchggeonaa.Pure
theorem LexStands : Go.Proofs.Ytchjlcchggeonaa.PLex.affluxlaw11_LexStands.Pure := Go.Proofs.Ytchjlcchggeonaa.PM.lexStands
end Go.Proofs.Ytchjlcchggeonaa.Pure
