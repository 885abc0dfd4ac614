/-
  Soa, the document's.
-/
import Derived.Test.YtdjleplefbmjbaaRdF
namespace Go.Proofs.Ytdjleplefbmjbaa
open Go.RowKit
set_option linter.unusedSimpArgs false
set_option linter.unusedVariables false
end Go.Proofs.Ytdjleplefbmjbaa
