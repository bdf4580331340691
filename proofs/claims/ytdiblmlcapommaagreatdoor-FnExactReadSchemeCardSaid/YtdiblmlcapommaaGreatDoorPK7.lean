/-
  PK7: the texts C2 C5 in one (written by pack.py).
-/
import Derived.Test.YtdiblmlcapommaaGreatDoorPK4
import Derived.Test.YtdiblmlcapommaaGreatDoorPK2
set_option linter.unusedVariables false
set_option linter.unusedSimpArgs false
namespace Go.Proofs.YtdiblmlcapommaaGreatDoor
open Go.RowKit

def wbT (m n : Mask) : Mask := if isMaskB m && isMaskB n then mless n m else 0
def wbF (m n : Mask) : Mask := if isMaskB m && isMaskB n then mless m n else 0
def wbC (m n : Mask) : Int := if isMaskB m && isMaskB n then 0 else 1
def uwT (t f : Mask) : Mask := if isWearB t f then f else 0
def uwF (t f : Mask) : Mask := if isWearB t f then t else 0
def uwC (t f : Mask) : Int := if isWearB t f then 0 else 1
def awT (t f t' f' : Mask) : Mask := if isWearB t f && isWearB t' f' then mjoin t' (mless t f') else 0
def awF (t f t' f' : Mask) : Mask := if isWearB t f && isWearB t' f' then mjoin f' (mless f t') else 0
def awC (t f t' f' : Mask) : Int := if isWearB t f && isWearB t' f' then 0 else 1
theorem meqB_refl (m : Mask) : meqB m m = true := by simp [meqB]
end Go.Proofs.YtdiblmlcapommaaGreatDoor
set_option linter.unusedVariables false
set_option linter.unusedSimpArgs false
namespace Go.Proofs.YtdiblmlcapommaaGreatDoor
open Go.RowKit
theorem info_Mask : (Tryz.prog.info? 49).map (fun i => (i.zero, i.size, i.bytes)) = some (some (.agg #[.int .u64 0, .int .u64 0]), 2, 16) := by kernel_rfl
theorem info_Mask2 : (Tryz.prog.info? 49).map (·.size) = some encMask.sz := by kernel_rfl
end Go.Proofs.YtdiblmlcapommaaGreatDoor
