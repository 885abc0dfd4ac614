/-
  The type of bytes.
-/
import Derived.Handy
import Derived.Test.YtdjleplefbmjbaaByt
import Derived.Test.YtdjleplefbmjbaaRdA
namespace Go.Proofs.Ytdjleplefbmjbaa
open Go.RowKit
theorem info_u8 : (Try.prog.info? 5).map (fun i => (i.zero, i.size, i.bytes)) = some (some (.int .u8 0), 1, 1) := by kernel_rfl
end Go.Proofs.Ytdjleplefbmjbaa
