/-
  The walk of the law FnExactChanceWear.
-/
import Derived.Test.YthkphhacmneeiaaGreatDoorH1
import Derived.Test.YthkphhacmneeiaaGreatDoorH2
import Derived.Test.YthkphhacmneeiaaGreatDoorH3
import Derived.Test.YthkphhacmneeiaaGreatDoorH4
set_option linter.unusedVariables false
set_option linter.unusedSimpArgs false
namespace Go.Proofs.YthkphhacmneeiaaGreatDoor
open Go.RowKit
/-- What ChanceWear returns. -/
def chF (x : Crd) (seed torn filled : Int) : Crd × Mask × Mask × Int × Int :=
  if isCardB x = true then (if 0 ≤ torn ∧ torn ≤ 1000 ∧ 0 ≤ filled ∧ filled ≤ 1000 then (⟨x.nm, wornM (chTo x.m torn filled seed 96).2.1 (chTo x.m torn filled seed 96).2.2 x.m⟩, (chTo x.m torn filled seed 96).2.1, (chTo x.m torn filled seed 96).2.2, (chTo x.m torn filled seed 96).1, 0) else (Crd.z, 0, 0, 0, 2)) else (Crd.z, 0, 0, 0, 1)
theorem spec_Chance (x : Crd) (hnm : x.nm.size ≤ 9223372036854775807) (seed torn filled : Int) (s0 : 0 ≤ seed) (s1 : seed < 4294967296) (w : World) :
    Calls Tryz.prog 18 #[.agg #[.string x.nm, .int .u64 (lo x.m), .int .u64 (hi x.m)], .int .u32 seed, .int .i64 torn, .int .i64 filled] w fun e w' => e = .returned (.tuple #[.agg #[.string (chF x seed torn filled).1.nm, .int .u64 (lo (chF x seed torn filled).1.m), .int .u64 (hi (chF x seed torn filled).1.m)], .agg #[.int .u64 (lo (chF x seed torn filled).2.1), .int .u64 (hi (chF x seed torn filled).2.1), .int .u64 (lo (chF x seed torn filled).2.2.1), .int .u64 (hi (chF x seed torn filled).2.2.1)], .int .u32 (chF x seed torn filled).2.2.2.1, .int .i64 (chF x seed torn filled).2.2.2.2]) ∧ Ext w w' := by
  by_cases hc : isCardB x = true
  · by_cases hr : 0 ≤ torn ∧ torn ≤ 1000 ∧ 0 ≤ filled ∧ filled ≤ 1000
    · have hv := show chF x seed torn filled = _ from (if_pos hc).trans (if_pos hr)
      rw [hv]
      exact spec_ChanceWear x hnm seed torn filled s0 s1 hc hr.1 hr.2.1 hr.2.2.1 hr.2.2.2 w
    · have hv := show chF x seed torn filled = _ from (if_pos hc).trans (if_neg hr)
      rw [hv]
      exact spec_ChanceWear_bad2 x hnm seed torn filled hc hr w
  · have hv := show chF x seed torn filled = _ from if_neg hc
    rw [hv]
    exact spec_ChanceWear_bad1 x hnm seed torn filled (by simpa using hc) w
theorem impl_Chance (x : Crd) (hnm : x.nm.size ≤ 9223372036854775807) (seed torn filled : Int) (s0 : 0 ≤ seed) (s1 : seed < 4294967296) (w : World) :
    Calls Tryz.prog 17 #[.agg #[.string x.nm, .int .u64 (lo x.m), .int .u64 (hi x.m)], .int .u32 seed, .int .i64 torn, .int .i64 filled] w fun e w' => e = .returned (.tuple #[.agg #[.string (chF x seed torn filled).1.nm, .int .u64 (lo (chF x seed torn filled).1.m), .int .u64 (hi (chF x seed torn filled).1.m)], .agg #[.int .u64 (lo (chF x seed torn filled).2.1), .int .u64 (hi (chF x seed torn filled).2.1), .int .u64 (lo (chF x seed torn filled).2.2.1), .int .u64 (hi (chF x seed torn filled).2.2.1)], .int .u32 (chF x seed torn filled).2.2.2.1, .int .i64 (chF x seed torn filled).2.2.2.2]) ∧ Ext w w' := by
  by_cases hc : isCardB x = true
  · by_cases hr : 0 ≤ torn ∧ torn ≤ 1000 ∧ 0 ≤ filled ∧ filled ≤ 1000
    · have hv := show chF x seed torn filled = _ from (if_pos hc).trans (if_pos hr)
      rw [hv]
      exact impl_ChanceWear x hnm seed torn filled s0 s1 hc hr.1 hr.2.1 hr.2.2.1 hr.2.2.2 w
    · have hv := show chF x seed torn filled = _ from (if_pos hc).trans (if_neg hr)
      rw [hv]
      exact impl_ChanceWear_bad2 x hnm seed torn filled hc hr w
  · have hv := show chF x seed torn filled = _ from if_neg hc
    rw [hv]
    exact impl_ChanceWear_bad1 x hnm seed torn filled (by simpa using hc) w
attribute [irreducible] chF
