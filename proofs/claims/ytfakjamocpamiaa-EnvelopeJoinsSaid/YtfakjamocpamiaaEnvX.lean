/- What signing gives, for the laws: plain Lean. -/
import Derived.Test.YtfakjamocpamiaaEnvT
set_option linter.unusedSimpArgs false
set_option linter.unusedVariables false
set_option maxRecDepth 100000
namespace Go.Adm
open Go Go.RowKit Go.Proofs.Ytfakjamocpamiaa
def seedM (b : UInt8) : List UInt8 := b :: 1 :: List.replicate 14 0
end Go.Adm
