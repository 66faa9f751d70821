import Derived.Test.YtlapmahiabcbmaaTab
import Derived.Test.YtlapmahiabcbmaaM
/-! What the functions of Go's library come to here: none is wanted. -/
set_option linter.unusedSimpArgs false
set_option linter.unusedVariables false
namespace Go.Proofs.Ytlapmahiabcbmaa
open Go.RowKit
end Go.Proofs.Ytlapmahiabcbmaa
