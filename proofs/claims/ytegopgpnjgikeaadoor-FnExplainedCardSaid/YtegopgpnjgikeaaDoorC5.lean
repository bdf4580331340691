/-
  Contracts of the functions on slices of masks.
-/
import Derived.Test.YtegopgpnjgikeaaDoorC2
import Derived.Test.YtegopgpnjgikeaaDoorL3
set_option linter.unusedVariables false
set_option linter.unusedSimpArgs false
namespace Go.Proofs.YtegopgpnjgikeaaDoor
open Go.RowKit
theorem info_Mask : (Tryd.prog.info? 33).map (fun i => (i.zero, i.size, i.bytes)) = some (some (.agg #[.int .u64 0, .int .u64 0]), 2, 16) := by kernel_rfl
theorem info_Mask2 : (Tryd.prog.info? 33).map (·.size) = some encMask.sz := by kernel_rfl
