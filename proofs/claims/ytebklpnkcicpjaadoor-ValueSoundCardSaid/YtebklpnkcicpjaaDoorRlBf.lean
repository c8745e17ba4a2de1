/-
 What is proved here: what ValueBefore returns.
-/
import Derived.Test.YtebklpnkcicpjaaDoorRlCm
namespace Go.Proofs.YtebklpnkcicpjaaDoor
open Go.RowKit
set_option linter.unusedVariables false
set_option linter.unusedSimpArgs false

end Go.Proofs.YtebklpnkcicpjaaDoor


