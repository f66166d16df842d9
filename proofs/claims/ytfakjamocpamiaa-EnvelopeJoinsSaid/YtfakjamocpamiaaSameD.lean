/- Equality of lists of digests that are equal. -/
import Derived.Test.YtfakjamocpamiaaSto15
set_option linter.unusedSimpArgs false
set_option linter.unusedVariables false
set_option maxRecDepth 100000
namespace Go.Proofs.Ytfakjamocpamiaa
open Go Go.RowKit Go.Adm
end Go.Proofs.Ytfakjamocpamiaa
