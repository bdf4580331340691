/-
  Contracts of the functions on slices of masks.
-/
import Derived.Test.YtegopgpnjgikeaaGreatDoorC2
import Derived.Test.YtegopgpnjgikeaaGreatDoorL3
set_option linter.unusedVariables false
set_option linter.unusedSimpArgs false
namespace Go.Proofs.YtegopgpnjgikeaaGreatDoor
open Go.RowKit
theorem info_Mask : (Tryz.prog.info? 47).map (fun i => (i.zero, i.size, i.bytes)) = some (some (.agg #[.int .u64 0, .int .u64 0]), 2, 16) := by kernel_rfl
theorem info_Mask2 : (Tryz.prog.info? 47).map (·.size) = some encMask.sz := by kernel_rfl
