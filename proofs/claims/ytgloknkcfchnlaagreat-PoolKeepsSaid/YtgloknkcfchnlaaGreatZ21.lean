/- Contracts: transactions cut to a size. Contracts: whether tw -/
import Derived.Test.YtgloknkcfchnlaaGreatZ19
set_option linter.unusedVariables false
set_option linter.unusedSimpArgs false
namespace Go.Proofs.YtgloknkcfchnlaaGreat
section
open Go Go.K
attribute [local irreducible] aF aP bG KOp.wp K.Spec u32 leS vnS str aR dE bS idT aO aE aQ idN
end
section
open Go Go.K
attribute [local irreducible] aF aP bG KOp.wp K.Spec u32 leS vnS str aR dE bS idT aO aE aQ
end
end Go.Proofs.YtgloknkcfchnlaaGreat
