/- The plain law of LexSpaces: it is true for every text. -/
import Derived.Test.YtchjlcchggeonaaPN
namespace Go.Proofs.Ytchjlcchggeonaa.Pure
theorem LexSpaces : Go.Proofs.Ytchjlcchggeonaa.PLex.affluxlaw11_LexSpaces.Pure := Go.Proofs.Ytchjlcchggeonaa.PN.lexSpaces
end Go.Proofs.Ytchjlcchggeonaa.Pure
