/-
  Contracts for the laws on drawn fields: what the functions return for a valid field.
-/
import Derived.Test.YtciepjdacmjhlaaDoorF23
import Derived.Test.YtciepjdacmjhlaaDoorF12
import Derived.Test.YtciepjdacmjhlaaDoorFDX
import Derived.Test.YtciepjdacmjhlaaDoorK1
import Derived.Test.YtciepjdacmjhlaaDoorC3
import Derived.Test.YtciepjdacmjhlaaDoorEQ
set_option linter.unusedVariables false
set_option linter.unusedSimpArgs false
set_option maxRecDepth 100000
namespace Go.Proofs.YtciepjdacmjhlaaDoor
open Go.RowKit
theorem impl_MostOf (f : Fld) (hf : fldB f = true) (hin : FldIn f) (w : World) :
    Calls Tryd.prog 7 #[.agg #[.string f.nm, .int .i8 f.kd, .int .i16 f.st, .int .i16 f.sz]] w fun e w' => e = .returned (.tuple #[.int .i64 (mostF f), .int .i64 0]) ∧ Ext w w' := by
  have h1 := fun W => isField_in f hin W
  rw [hf] at h1
  obtain ⟨_, k0, k3, s0, z0, z1, z2⟩ := fldB_parts hf
  have h2 := fun W => impl_most f.nm f.kd f.st f.sz k0 k3 z0 z1 W
  have hX : BoxAt (w.alloc (.cells #[.string f.nm, .int .i8 f.kd, .int .i16 f.st, .int .i16 f.sz] 29)) w.heap.size #[.string f.nm, .int .i8 f.kd, .int .i16 f.st, .int .i16 f.sz] 29 := BoxAt.new' rfl
  go_enter Tryd.func7, Tryd.ntmps7
  go_wp2_with fail
  refine Calls.mono (h1 _) ?_
  rintro e w1 ⟨rfl, hb1⟩
  replace hX := hX.ext hb1
  have x0 : w1.cell? ⟨w.heap.size, 0, none⟩ = some (.string f.nm) := hX.cell 0
  have x1 : w1.cell? ⟨w.heap.size, 1, none⟩ = some (.int .i8 f.kd) := hX.cell 1
  have x2 : w1.cell? ⟨w.heap.size, 2, none⟩ = some (.int .i16 f.st) := hX.cell 2
  have x3 : w1.cell? ⟨w.heap.size, 3, none⟩ = some (.int .i16 f.sz) := hX.cell 3
  have lx := hX.lt
  go_wp2_with fail
  refine Calls.mono (h2 _) ?_
  rintro e w2 ⟨rfl, hb2⟩
  go_wp2
  go_ret2
  exact ⟨rfl, (((Ext.refl w).alloc _).trans hb1).trans hb2⟩
theorem impl_HolesOf (f : Fld) (hf : fldB f = true) (hin : FldIn f) (w : World) :
    Calls Tryd.prog 9 #[.agg #[.string f.nm, .int .i8 f.kd, .int .i16 f.st, .int .i16 f.sz]] w fun e w' => e = .returned (.tuple #[.int .i64 (manyF f.kd f.sz), .int .i64 0]) ∧ Ext w w' := by
  have h1 := fun W => isField_in f hin W
  rw [hf] at h1
  obtain ⟨⟨_, _, _, _⟩, _⟩ := hin
  have h2 := fun W => impl_many f.nm f.kd f.st f.sz (by omega) (by omega) W
  have hX : BoxAt (w.alloc (.cells #[.string f.nm, .int .i8 f.kd, .int .i16 f.st, .int .i16 f.sz] 29)) w.heap.size #[.string f.nm, .int .i8 f.kd, .int .i16 f.st, .int .i16 f.sz] 29 := BoxAt.new' rfl
  go_enter Tryd.func9, Tryd.ntmps9
  go_wp2_with fail
  refine Calls.mono (h1 _) ?_
  rintro e w1 ⟨rfl, hb1⟩
  replace hX := hX.ext hb1
  have x0 : w1.cell? ⟨w.heap.size, 0, none⟩ = some (.string f.nm) := hX.cell 0
  have x1 : w1.cell? ⟨w.heap.size, 1, none⟩ = some (.int .i8 f.kd) := hX.cell 1
  have x2 : w1.cell? ⟨w.heap.size, 2, none⟩ = some (.int .i16 f.st) := hX.cell 2
  have x3 : w1.cell? ⟨w.heap.size, 3, none⟩ = some (.int .i16 f.sz) := hX.cell 3
  have lx := hX.lt
  go_wp2_with fail
  refine Calls.mono (h2 _) ?_
  rintro e w2 ⟨rfl, hb2⟩
  go_wp2
  go_ret2
  exact ⟨rfl, (((Ext.refl w).alloc _).trans hb1).trans hb2⟩
theorem impl_ValidField (f : Fld) (hin : FldIn f) (w : World) :
    Calls Tryd.prog 12 #[.agg #[.string f.nm, .int .i8 f.kd, .int .i16 f.st, .int .i16 f.sz]] w fun e w' => e = .returned (.bool (fldB f)) ∧ Ext w w' := by
  have h1 := fun W => isField_in f hin W
  go_enter Tryd.func12, Tryd.ntmps12
  go_wp2_with fail
  refine Calls.mono (h1 _) ?_
  rintro e w1 ⟨rfl, hb1⟩
  go_wp2
  go_ret
  exact ⟨rfl, ((Ext.refl w).alloc _).trans hb1⟩
theorem impl_PartOf (f : Fld) (hf : fldB f = true) (hin : FldIn f) (w : World) :
    Calls Tryd.prog 8 #[.agg #[.string f.nm, .int .i8 f.kd, .int .i16 f.st, .int .i16 f.sz]] w fun e w' => e = .returned (.tuple #[.agg #[.int .u64 (lo (partF f)), .int .u64 (hi (partF f))], .int .i64 0]) ∧ Ext w w' := by
  have h1 := fun W => isField_in f hin W
  rw [hf] at h1
  have h2 : ∀ W, Calls Tryd.prog 26 #[.agg #[.string f.nm, .int .i8 f.kd, .int .i16 f.st, .int .i16 f.sz]] W fun e w' => e = .returned (.agg #[.int .u64 (lo (partF f)), .int .u64 (hi (partF f))]) ∧ Ext W w' := fun W => impl_part f.nm f.kd f.st f.sz hf W
  generalize partF f = p at h2 ⊢
  have hX : BoxAt ((w.alloc (.cells #[.string f.nm, .int .i8 f.kd, .int .i16 f.st, .int .i16 f.sz] 29)).alloc (.cells #[.int .u64 0, .int .u64 0] 35)) w.heap.size #[.string f.nm, .int .i8 f.kd, .int .i16 f.st, .int .i16 f.sz] 29 := (BoxAt.new' rfl).alloc _
  have hY : BoxAt ((w.alloc (.cells #[.string f.nm, .int .i8 f.kd, .int .i16 f.st, .int .i16 f.sz] 29)).alloc (.cells #[.int .u64 0, .int .u64 0] 35)) (w.heap.size + 1) #[.int .u64 0, .int .u64 0] 35 := BoxAt.new' (by simp)
  go_enter Tryd.func8, Tryd.ntmps8
  go_wp2_with fail
  refine Calls.mono (h1 _) ?_
  rintro e w1 ⟨rfl, hb1⟩
  replace hX := hX.ext hb1
  replace hY := hY.ext hb1
  have x0 : w1.cell? ⟨w.heap.size, 0, none⟩ = some (.string f.nm) := hX.cell 0
  have x1 : w1.cell? ⟨w.heap.size, 1, none⟩ = some (.int .i8 f.kd) := hX.cell 1
  have x2 : w1.cell? ⟨w.heap.size, 2, none⟩ = some (.int .i16 f.st) := hX.cell 2
  have x3 : w1.cell? ⟨w.heap.size, 3, none⟩ = some (.int .i16 f.sz) := hX.cell 3
  have lx := hX.lt
  go_wp2_with fail
  refine Calls.mono (h2 _) ?_
  rintro e w2 ⟨rfl, hb2⟩
  replace hY := hY.ext hb2
  have hw := ((((Ext.refl w).alloc (.cells #[.string f.nm, .int .i8 f.kd, .int .i16 f.st, .int .i16 f.sz] 29)).alloc (.cells #[.int .u64 0, .int .u64 0] 35)).trans hb1).trans hb2
  clear x0 x1 x2 x3 lx hX hb1 hb2 h1 h2
  have ry0 : w2.cell? ⟨w.heap.size + 1, 0, none⟩ = some (.int .u64 0) := hY.cell 0
  have ry1 : w2.cell? ⟨w.heap.size + 1, 1, none⟩ = some (.int .u64 0) := hY.cell 1
  have rf0 := hY.frozen 0
  have rf1 := hY.frozen 1
  have rl := hY.lt
  go_wp2
  have rYf := ((hY.set 0 (.int .u64 (lo p))).set 1 (.int .u64 (hi p)))
  clear ry0 rf0 ry1 rf1
  have rc0 : World.cell? _ ⟨w.heap.size + 1, 0, none⟩ = some (.int .u64 (lo p)) := rYf.cell 0
  have rc1 : World.cell? _ ⟨w.heap.size + 1, 1, none⟩ = some (.int .u64 (hi p)) := rYf.cell 1
  refine bodyPost_ret (v := .tuple #[.agg #[.int .u64 (lo p), .int .u64 (hi p)], .int .i64 0]) (by simp [results, Tryd.results8, go_sem, rc0, rc1]) rfl ⟨rfl, ?_⟩
  exact Ext.set (by dsimp only; omega) (Ext.set (by dsimp only; omega) (hw) _) _
theorem impl_EncodeField (f : Fld) (hf : fldB f = true) (hin : FldIn f) (v : Int) (v0 : 0 ≤ v) (v1 : v ≤ mostF f) (w : World) :
    Calls Tryd.prog 13 #[.agg #[.string f.nm, .int .i8 f.kd, .int .i16 f.st, .int .i16 f.sz], .int .i64 v] w fun e w' => e = .returned (.tuple #[.agg #[.int .u64 (lo (codeF f v)), .int .u64 (hi (codeF f v))], .int .i64 0]) ∧ Ext w w' := by
  have h1 := fun W => isField_in f hin W
  rw [hf] at h1
  obtain ⟨_, k0, k3, s0, z0, z1, z2⟩ := fldB_parts hf
  have h2 : ∀ W, Calls Tryd.prog 25 #[.agg #[.string f.nm, .int .i8 f.kd, .int .i16 f.st, .int .i16 f.sz]] W fun e w' => e = .returned (.int .i64 (mostF f)) ∧ Ext W w' := fun W => impl_most f.nm f.kd f.st f.sz k0 k3 z0 z1 W
  have h3 : ∀ W, Calls Tryd.prog 31 #[.agg #[.string f.nm, .int .i8 f.kd, .int .i16 f.st, .int .i16 f.sz], .int .i64 v] W fun e w' => e = .returned (.agg #[.int .u64 (lo (codeF f v)), .int .u64 (hi (codeF f v))]) ∧ Ext W w' := fun W => impl_encode f.nm f.kd f.st f.sz v hf v0 v1 W
  generalize codeF f v = p at h3 ⊢
  generalize mostF f = mo at h2 v1
  have i1 : (v < 0) = False := eq_false (by omega)
  have i2 : (mo < v) = False := eq_false (by omega)
  have hX : BoxAt ((w.alloc (.cells #[.string f.nm, .int .i8 f.kd, .int .i16 f.st, .int .i16 f.sz] 29)).alloc (.cells #[.int .u64 0, .int .u64 0] 35)) w.heap.size #[.string f.nm, .int .i8 f.kd, .int .i16 f.st, .int .i16 f.sz] 29 := (BoxAt.new' rfl).alloc _
  have hY : BoxAt ((w.alloc (.cells #[.string f.nm, .int .i8 f.kd, .int .i16 f.st, .int .i16 f.sz] 29)).alloc (.cells #[.int .u64 0, .int .u64 0] 35)) (w.heap.size + 1) #[.int .u64 0, .int .u64 0] 35 := BoxAt.new' (by simp)
  go_enter Tryd.func13, Tryd.ntmps13
  go_wp2_with fail
  refine Calls.mono (h1 _) ?_
  rintro e w1 ⟨rfl, hb1⟩
  replace hX := hX.ext hb1
  replace hY := hY.ext hb1
  have x0 : w1.cell? ⟨w.heap.size, 0, none⟩ = some (.string f.nm) := hX.cell 0
  have x1 : w1.cell? ⟨w.heap.size, 1, none⟩ = some (.int .i8 f.kd) := hX.cell 1
  have x2 : w1.cell? ⟨w.heap.size, 2, none⟩ = some (.int .i16 f.st) := hX.cell 2
  have x3 : w1.cell? ⟨w.heap.size, 3, none⟩ = some (.int .i16 f.sz) := hX.cell 3
  have lx := hX.lt
  go_wp2_with fail
  refine Calls.mono (h2 _) ?_
  rintro e w2 ⟨rfl, hb2⟩
  replace hX := hX.ext hb2
  replace hY := hY.ext hb2
  clear x0 x1 x2 x3 lx
  have x0 : w2.cell? ⟨w.heap.size, 0, none⟩ = some (.string f.nm) := hX.cell 0
  have x1 : w2.cell? ⟨w.heap.size, 1, none⟩ = some (.int .i8 f.kd) := hX.cell 1
  have x2 : w2.cell? ⟨w.heap.size, 2, none⟩ = some (.int .i16 f.st) := hX.cell 2
  have x3 : w2.cell? ⟨w.heap.size, 3, none⟩ = some (.int .i16 f.sz) := hX.cell 3
  have lx := hX.lt
  go_wp2_with fail
  refine Calls.mono (h3 _) ?_
  rintro e w3 ⟨rfl, hb3⟩
  replace hY := hY.ext hb3
  have hw := (((((Ext.refl w).alloc (.cells #[.string f.nm, .int .i8 f.kd, .int .i16 f.st, .int .i16 f.sz] 29)).alloc (.cells #[.int .u64 0, .int .u64 0] 35)).trans hb1).trans hb2).trans hb3
  clear x0 x1 x2 x3 lx hX hb1 hb2 hb3 h1 h2 h3 i1 i2
  have ry0 : w3.cell? ⟨w.heap.size + 1, 0, none⟩ = some (.int .u64 0) := hY.cell 0
  have ry1 : w3.cell? ⟨w.heap.size + 1, 1, none⟩ = some (.int .u64 0) := hY.cell 1
  have rf0 := hY.frozen 0
  have rf1 := hY.frozen 1
  have rl := hY.lt
  go_wp2
  have rYf := ((hY.set 0 (.int .u64 (lo p))).set 1 (.int .u64 (hi p)))
  clear ry0 rf0 ry1 rf1
  have rc0 : World.cell? _ ⟨w.heap.size + 1, 0, none⟩ = some (.int .u64 (lo p)) := rYf.cell 0
  have rc1 : World.cell? _ ⟨w.heap.size + 1, 1, none⟩ = some (.int .u64 (hi p)) := rYf.cell 1
  refine bodyPost_ret (v := .tuple #[.agg #[.int .u64 (lo p), .int .u64 (hi p)], .int .i64 0]) (by simp [results, Tryd.results13, go_sem, rc0, rc1]) rfl ⟨rfl, ?_⟩
  exact Ext.set (by dsimp only; omega) (Ext.set (by dsimp only; omega) (hw) _) _
theorem impl_EncodeField_far (f : Fld) (hf : fldB f = true) (hin : FldIn f) (v : Int) (v1 : mostF f < v) (w : World) :
    Calls Tryd.prog 13 #[.agg #[.string f.nm, .int .i8 f.kd, .int .i16 f.st, .int .i16 f.sz], .int .i64 v] w fun e w' => e = .returned (.tuple #[.agg #[.int .u64 0, .int .u64 0], .int .i64 2]) ∧ Ext w w' := by
  have h1 := fun W => isField_in f hin W
  rw [hf] at h1
  obtain ⟨_, k0, k3, s0, z0, z1, z2⟩ := fldB_parts hf
  have hm := (mostF_le f hf).1
  have h2 : ∀ W, Calls Tryd.prog 25 #[.agg #[.string f.nm, .int .i8 f.kd, .int .i16 f.st, .int .i16 f.sz]] W fun e w' => e = .returned (.int .i64 (mostF f)) ∧ Ext W w' := fun W => impl_most f.nm f.kd f.st f.sz k0 k3 z0 z1 W
  generalize mostF f = mo at h2 v1 hm
  have i1 : (v < 0) = False := eq_false (by omega)
  have hX : BoxAt ((w.alloc (.cells #[.string f.nm, .int .i8 f.kd, .int .i16 f.st, .int .i16 f.sz] 29)).alloc (.cells #[.int .u64 0, .int .u64 0] 35)) w.heap.size #[.string f.nm, .int .i8 f.kd, .int .i16 f.st, .int .i16 f.sz] 29 := (BoxAt.new' rfl).alloc _
  have hY : BoxAt ((w.alloc (.cells #[.string f.nm, .int .i8 f.kd, .int .i16 f.st, .int .i16 f.sz] 29)).alloc (.cells #[.int .u64 0, .int .u64 0] 35)) (w.heap.size + 1) #[.int .u64 0, .int .u64 0] 35 := BoxAt.new' (by simp)
  go_enter Tryd.func13, Tryd.ntmps13
  go_wp2_with fail
  refine Calls.mono (h1 _) ?_
  rintro e w1 ⟨rfl, hb1⟩
  replace hX := hX.ext hb1
  replace hY := hY.ext hb1
  have x0 : w1.cell? ⟨w.heap.size, 0, none⟩ = some (.string f.nm) := hX.cell 0
  have x1 : w1.cell? ⟨w.heap.size, 1, none⟩ = some (.int .i8 f.kd) := hX.cell 1
  have x2 : w1.cell? ⟨w.heap.size, 2, none⟩ = some (.int .i16 f.st) := hX.cell 2
  have x3 : w1.cell? ⟨w.heap.size, 3, none⟩ = some (.int .i16 f.sz) := hX.cell 3
  have lx := hX.lt
  go_wp2_with fail
  refine Calls.mono (h2 _) ?_
  rintro e w2 ⟨rfl, hb2⟩
  replace hY := hY.ext hb2
  have hw := ((((Ext.refl w).alloc (.cells #[.string f.nm, .int .i8 f.kd, .int .i16 f.st, .int .i16 f.sz] 29)).alloc (.cells #[.int .u64 0, .int .u64 0] 35)).trans hb1).trans hb2
  clear x0 x1 x2 x3 lx hX hb1 hb2 h1 h2 i1
  have ry0 : w2.cell? ⟨w.heap.size + 1, 0, none⟩ = some (.int .u64 0) := hY.cell 0
  have ry1 : w2.cell? ⟨w.heap.size + 1, 1, none⟩ = some (.int .u64 0) := hY.cell 1
  have rf0 := hY.frozen 0
  have rf1 := hY.frozen 1
  have rl := hY.lt
  go_wp2
  have rYf := ((hY.set 0 (.int .u64 0)).set 1 (.int .u64 0))
  clear ry0 rf0 ry1 rf1
  have rc0 : World.cell? _ ⟨w.heap.size + 1, 0, none⟩ = some (.int .u64 0) := rYf.cell 0
  have rc1 : World.cell? _ ⟨w.heap.size + 1, 1, none⟩ = some (.int .u64 0) := rYf.cell 1
  refine bodyPost_ret (v := .tuple #[.agg #[.int .u64 0, .int .u64 0], .int .i64 2]) (by simp [results, Tryd.results13, go_sem, rc0, rc1]) rfl ⟨rfl, ?_⟩
  exact Ext.set (by dsimp only; omega) (Ext.set (by dsimp only; omega) (hw) _) _
theorem impl_DecodeField (f : Fld) (hf : fldB f = true) (hin : FldIn f) (m : Mask) (hm : isMaskB m = true) (w : World) :
    Calls Tryd.prog 18 #[.agg #[.string f.nm, .int .i8 f.kd, .int .i16 f.st, .int .i16 f.sz], .agg #[.int .u64 (lo m), .int .u64 (hi m)]] w fun e w' => e = .returned (.tuple #[.int .i64 (valueF f m).1, .int .i64 (valueF f m).2]) ∧ Ext w w' := by
  have h1 := fun W => isField_in f hin W
  rw [hf] at h1
  have h2 := fun W => impl_isMask m W
  rw [hm] at h2
  have h3 : ∀ W, Calls Tryd.prog 38 #[.agg #[.string f.nm, .int .i8 f.kd, .int .i16 f.st, .int .i16 f.sz], .agg #[.int .u64 (lo m), .int .u64 (hi m)]] W fun e w' => e = .returned (.tuple #[.int .i64 (valueF f m).1, .int .i64 (valueF f m).2]) ∧ Ext W w' := fun W => impl_decode f.nm f.kd f.st f.sz hf m W
  generalize valueF f m = q at h3 ⊢
  have hX : BoxAt ((w.alloc (.cells #[.string f.nm, .int .i8 f.kd, .int .i16 f.st, .int .i16 f.sz] 29)).alloc (.cells #[.int .u64 (lo m), .int .u64 (hi m)] 35)) w.heap.size #[.string f.nm, .int .i8 f.kd, .int .i16 f.st, .int .i16 f.sz] 29 := (BoxAt.new' rfl).alloc _
  have hY : BoxAt ((w.alloc (.cells #[.string f.nm, .int .i8 f.kd, .int .i16 f.st, .int .i16 f.sz] 29)).alloc (.cells #[.int .u64 (lo m), .int .u64 (hi m)] 35)) (w.heap.size + 1) #[.int .u64 (lo m), .int .u64 (hi m)] 35 := BoxAt.new' (by simp)
  go_enter Tryd.func18, Tryd.ntmps18
  go_wp2_with fail
  refine Calls.mono (h1 _) ?_
  rintro e w1 ⟨rfl, hb1⟩
  replace hX := hX.ext hb1
  replace hY := hY.ext hb1
  have y0 : w1.cell? ⟨w.heap.size + 1, 0, none⟩ = some (.int .u64 (lo m)) := hY.cell 0
  have y1 : w1.cell? ⟨w.heap.size + 1, 1, none⟩ = some (.int .u64 (hi m)) := hY.cell 1
  have ly := hY.lt
  have l0 : w.heap.size < w1.heap.size := hX.lt
  go_wp2_with fail
  refine Calls.mono (h2 _) ?_
  rintro e w2 ⟨rfl, hb2⟩
  replace hX := hX.ext hb2
  replace hY := hY.ext hb2
  clear y0 y1 ly l0
  have x0 : w2.cell? ⟨w.heap.size, 0, none⟩ = some (.string f.nm) := hX.cell 0
  have x1 : w2.cell? ⟨w.heap.size, 1, none⟩ = some (.int .i8 f.kd) := hX.cell 1
  have x2 : w2.cell? ⟨w.heap.size, 2, none⟩ = some (.int .i16 f.st) := hX.cell 2
  have x3 : w2.cell? ⟨w.heap.size, 3, none⟩ = some (.int .i16 f.sz) := hX.cell 3
  have lx := hX.lt
  have y0 : w2.cell? ⟨w.heap.size + 1, 0, none⟩ = some (.int .u64 (lo m)) := hY.cell 0
  have y1 : w2.cell? ⟨w.heap.size + 1, 1, none⟩ = some (.int .u64 (hi m)) := hY.cell 1
  have ly := hY.lt
  go_wp2_with fail
  refine Calls.mono (h3 _) ?_
  rintro e w3 ⟨rfl, hb3⟩
  go_wp2
  go_ret2
  exact ⟨rfl, ((((Ext.refl w).alloc _).alloc _).trans hb1 |>.trans hb2).trans hb3⟩
theorem impl_ValidCard (c : Crd) (hc : c.nm.size ≤ 9223372036854775807) (w : World) :
    Calls Tryd.prog 21 #[.agg #[.string c.nm, .int .u64 (lo c.m), .int .u64 (hi c.m)]] w fun e w' => e = .returned (.bool (isCardB c)) ∧ Ext w w' := by
  have h1 := fun W => impl_isCard c hc W
  go_enter Tryd.func21, Tryd.ntmps21
  go_wp2_with fail
  refine Calls.mono (h1 _) ?_
  rintro e w1 ⟨rfl, hb1⟩
  go_wp2
  go_ret
  exact ⟨rfl, ((Ext.refl w).alloc _).trans hb1⟩
theorem impl_IsWithin (a b : Mask) (w : World) :
    Calls Tryd.prog 15 #[.agg #[.int .u64 (lo a), .int .u64 (hi a)], .agg #[.int .u64 (lo b), .int .u64 (hi b)]] w fun e w' => e = .returned (.bool (mzero (mless a b))) ∧ Ext w w' := by
  have h1 := fun W => impl_LessMask a b W
  have e1 := lohi_zero (mless a b)
  have e2 := eqA_Mask
  generalize mless a b = q at h1 e1 ⊢
  go_enter Tryd.func15, Tryd.ntmps15
  go_wp2_with fail
  refine Calls.mono (h1 _) ?_
  rintro e w1 ⟨rfl, hb1⟩
  go_wp2
  go_ret
  exact ⟨rfl, ((((Ext.refl w).alloc _).alloc _)).trans hb1⟩
theorem spec_MostOf (f : Fld) (hf : fldB f = true) (hin : FldIn f) (w : World) :
    Calls Tryd.prog 10 #[.agg #[.string f.nm, .int .i8 f.kd, .int .i16 f.st, .int .i16 f.sz]] w fun e w' => e = .returned (.tuple #[.int .i64 (mostF f), .int .i64 0]) ∧ Ext w w' := by
  have h1 := fun b o W h => l01Field_in f hin b o W h
  rw [hf] at h1
  have h2 := fun b o W h => spec_l01Most f hf b o W h
  have hX : BoxAt (w.alloc (.cells #[.string f.nm, .int .i8 f.kd, .int .i16 f.st, .int .i16 f.sz] 29)) w.heap.size #[.string f.nm, .int .i8 f.kd, .int .i16 f.st, .int .i16 f.sz] 29 := BoxAt.new' rfl
  have hF : FldAt (w.alloc (.cells #[.string f.nm, .int .i8 f.kd, .int .i16 f.st, .int .i16 f.sz] 29)) w.heap.size 0 f := ⟨hX.cell 0, hX.cell 1, hX.cell 2, hX.cell 3⟩
  go_enter Tryd.func10, Tryd.ntmps10
  go_wp2_with fail
  refine Calls.mono (h1 _ _ _ hF) ?_
  rintro e w1 ⟨rfl, hb1⟩
  go_wp2_with fail
  refine Calls.mono (h2 _ _ _ (hF.ext hb1)) ?_
  rintro e w2 ⟨rfl, hb2⟩
  go_wp2
  go_ret2
  exact ⟨rfl, (((Ext.refl w).alloc _).trans hb1).trans hb2⟩
theorem spec_EncodeField (f : Fld) (hf : fldB f = true) (hin : FldIn f) (v : Int) (v0 : 0 ≤ v) (v1 : v ≤ mostF f) (w : World) :
    Calls Tryd.prog 14 #[.agg #[.string f.nm, .int .i8 f.kd, .int .i16 f.st, .int .i16 f.sz], .int .i64 v] w fun e w' => e = .returned (.tuple #[.agg #[.int .u64 (lo (codeF f v)), .int .u64 (hi (codeF f v))], .int .i64 0]) ∧ Ext w w' := by
  have h1 := fun b o W h => l01Field_in f hin b o W h
  rw [hf] at h1
  have h2 := fun b o W h => spec_l01Most f hf b o W h
  have h3 := fun b o W h => spec_l01Code f hf v v0 v1 b o W h
  generalize codeF f v = p at h3 ⊢
  have h4 := fun W => spec_l00In v 0 (mostF f) W
  rw [show inB v 0 (mostF f) = true by unfold inB; rw [decide_eq_true v0, decide_eq_true v1]; rfl] at h4
  generalize mostF f = mo at h2 h4
  have hX : BoxAt ((w.alloc (.cells #[.string f.nm, .int .i8 f.kd, .int .i16 f.st, .int .i16 f.sz] 29)).alloc (.cells #[.int .u64 0, .int .u64 0] 35)) w.heap.size #[.string f.nm, .int .i8 f.kd, .int .i16 f.st, .int .i16 f.sz] 29 := (BoxAt.new' rfl).alloc _
  have hF : FldAt ((w.alloc (.cells #[.string f.nm, .int .i8 f.kd, .int .i16 f.st, .int .i16 f.sz] 29)).alloc (.cells #[.int .u64 0, .int .u64 0] 35)) w.heap.size 0 f := ⟨hX.cell 0, hX.cell 1, hX.cell 2, hX.cell 3⟩
  have hY : BoxAt ((w.alloc (.cells #[.string f.nm, .int .i8 f.kd, .int .i16 f.st, .int .i16 f.sz] 29)).alloc (.cells #[.int .u64 0, .int .u64 0] 35)) (w.heap.size + 1) #[.int .u64 0, .int .u64 0] 35 := BoxAt.new' (by simp)
  go_enter Tryd.func14, Tryd.ntmps14
  go_wp2_with fail
  refine Calls.mono (h1 _ _ _ hF) ?_
  rintro e w1 ⟨rfl, hb1⟩
  go_wp2_with fail
  refine Calls.mono (h2 _ _ _ (hF.ext hb1)) ?_
  rintro e w2 ⟨rfl, hb2⟩
  go_wp2_with fail
  refine Calls.mono (h4 _) ?_
  rintro e w3 ⟨rfl, hb3⟩
  go_wp2_with fail
  refine Calls.mono (h3 _ _ _ (((hF.ext hb1).ext hb2).ext hb3)) ?_
  rintro e w4 ⟨rfl, hb4⟩
  replace hY := (((hY.ext hb1).ext hb2).ext hb3).ext hb4
  have hw := ((((((Ext.refl w).alloc (.cells #[.string f.nm, .int .i8 f.kd, .int .i16 f.st, .int .i16 f.sz] 29)).alloc (.cells #[.int .u64 0, .int .u64 0] 35)).trans hb1).trans hb2).trans hb3).trans hb4
  clear hX hF hb1 hb2 hb3 hb4 h1 h2 h3 h4 v0 v1
  have ry0 : w4.cell? ⟨w.heap.size + 1, 0, none⟩ = some (.int .u64 0) := hY.cell 0
  have ry1 : w4.cell? ⟨w.heap.size + 1, 1, none⟩ = some (.int .u64 0) := hY.cell 1
  have rf0 := hY.frozen 0
  have rf1 := hY.frozen 1
  have rl := hY.lt
  go_wp2
  have rYf := ((hY.set 0 (.int .u64 (lo p))).set 1 (.int .u64 (hi p)))
  clear ry0 rf0 ry1 rf1
  have rc0 : World.cell? _ ⟨w.heap.size + 1, 0, none⟩ = some (.int .u64 (lo p)) := rYf.cell 0
  have rc1 : World.cell? _ ⟨w.heap.size + 1, 1, none⟩ = some (.int .u64 (hi p)) := rYf.cell 1
  refine bodyPost_ret (v := .tuple #[.agg #[.int .u64 (lo p), .int .u64 (hi p)], .int .i64 0]) (by simp [results, Tryd.results14, go_sem, rc0, rc1]) rfl ⟨rfl, ?_⟩
  exact Ext.set (by dsimp only; omega) (Ext.set (by dsimp only; omega) (hw) _) _
set_option maxHeartbeats 1000000 in
theorem impl_PutField (c : Crd) (hc : isCardB c = true) (hcs : c.nm.size ≤ 9223372036854775807) (f : Fld) (hf : fldB f = true) (hin : FldIn f) (v : Int) (v0 : 0 ≤ v) (v1 : v ≤ mostF f) (w : World) :
    Calls Tryd.prog 17 #[.agg #[.string c.nm, .int .u64 (lo c.m), .int .u64 (hi c.m)], .agg #[.string f.nm, .int .i8 f.kd, .int .i16 f.st, .int .i16 f.sz], .int .i64 v] w fun e w' => e = .returned (.tuple #[.agg #[.string c.nm, .int .u64 (lo (putM f v c.m)), .int .u64 (hi (putM f v c.m))], .int .i64 0]) ∧ Ext w w' := by
  have hx := @ExtOf.cell
  have h0 := fun W => impl_isCard c hcs W
  rw [hc] at h0
  have h1 := fun W => isField_in f hin W
  rw [hf] at h1
  obtain ⟨_, k0, k3, s0, z0, z1, z2⟩ := fldB_parts hf
  have h2 : ∀ W, Calls Tryd.prog 25 #[.agg #[.string f.nm, .int .i8 f.kd, .int .i16 f.st, .int .i16 f.sz]] W fun e w' => e = .returned (.int .i64 (mostF f)) ∧ Ext W w' := fun W => impl_most f.nm f.kd f.st f.sz k0 k3 z0 z1 W
  have h3 : ∀ W, Calls Tryd.prog 31 #[.agg #[.string f.nm, .int .i8 f.kd, .int .i16 f.st, .int .i16 f.sz], .int .i64 v] W fun e w' => e = .returned (.agg #[.int .u64 (lo (codeF f v)), .int .u64 (hi (codeF f v))]) ∧ Ext W w' := fun W => impl_encode f.nm f.kd f.st f.sz v hf v0 v1 W
  have h4 : ∀ W, Calls Tryd.prog 26 #[.agg #[.string f.nm, .int .i8 f.kd, .int .i16 f.st, .int .i16 f.sz]] W fun e w' => e = .returned (.agg #[.int .u64 (lo (partF f)), .int .u64 (hi (partF f))]) ∧ Ext W w' := fun W => impl_part f.nm f.kd f.st f.sz hf W
  have h5 := fun W => impl_LessMask c.m (partF f) W
  have h6 := fun W => impl_JoinMasks (mless c.m (partF f)) (codeF f v) W
  unfold putM
  generalize mjoin (mless c.m (partF f)) (codeF f v) = r at h6 ⊢
  generalize mless c.m (partF f) = q at h5 h6
  generalize partF f = pt at h4 h5
  generalize codeF f v = p at h3 h6
  generalize mostF f = mo at h2 v1
  have i1 : (v < 0) = False := eq_false (by omega)
  have i2 : (mo < v) = False := eq_false (by omega)
  have hX : BoxAt (((w.alloc (.cells #[.string c.nm, .int .u64 (lo c.m), .int .u64 (hi c.m)] 44)).alloc (.cells #[.string f.nm, .int .i8 f.kd, .int .i16 f.st, .int .i16 f.sz] 29)).alloc (.cells #[.string ⟨#[]⟩, .int .u64 0, .int .u64 0] 44)) w.heap.size #[.string c.nm, .int .u64 (lo c.m), .int .u64 (hi c.m)] 44 := ((BoxAt.new' rfl).alloc _).alloc _
  have hY : BoxAt (((w.alloc (.cells #[.string c.nm, .int .u64 (lo c.m), .int .u64 (hi c.m)] 44)).alloc (.cells #[.string f.nm, .int .i8 f.kd, .int .i16 f.st, .int .i16 f.sz] 29)).alloc (.cells #[.string ⟨#[]⟩, .int .u64 0, .int .u64 0] 44)) (w.heap.size + 1) #[.string f.nm, .int .i8 f.kd, .int .i16 f.st, .int .i16 f.sz] 29 := (BoxAt.new' (by simp)).alloc _
  have hZ : BoxAt (((w.alloc (.cells #[.string c.nm, .int .u64 (lo c.m), .int .u64 (hi c.m)] 44)).alloc (.cells #[.string f.nm, .int .i8 f.kd, .int .i16 f.st, .int .i16 f.sz] 29)).alloc (.cells #[.string ⟨#[]⟩, .int .u64 0, .int .u64 0] 44)) (w.heap.size + 2) #[.string ⟨#[]⟩, .int .u64 0, .int .u64 0] 44 := BoxAt.new' (by simp)
  have hw0 : Ext w (((w.alloc (.cells #[.string c.nm, .int .u64 (lo c.m), .int .u64 (hi c.m)] 44)).alloc (.cells #[.string f.nm, .int .i8 f.kd, .int .i16 f.st, .int .i16 f.sz] 29)).alloc (.cells #[.string ⟨#[]⟩, .int .u64 0, .int .u64 0] 44)) := (((Ext.refl w).alloc _).alloc _).alloc _
  go_enter Tryd.func17, Tryd.ntmps17
  go_wp2_with fail
  refine Calls.mono (h0 _) ?_
  rintro e w1 ⟨rfl, hb1⟩
  replace hX := hX.ext hb1
  replace hY := hY.ext hb1
  replace hZ := hZ.ext hb1
  replace hw0 := hw0.trans hb1
  have y0 : w1.cell? ⟨w.heap.size + 1, 0, none⟩ = some (.string f.nm) := hY.cell 0
  have y1 : w1.cell? ⟨w.heap.size + 1, 1, none⟩ = some (.int .i8 f.kd) := hY.cell 1
  have y2 : w1.cell? ⟨w.heap.size + 1, 2, none⟩ = some (.int .i16 f.st) := hY.cell 2
  have y3 : w1.cell? ⟨w.heap.size + 1, 3, none⟩ = some (.int .i16 f.sz) := hY.cell 3
  have ly := hY.lt
  have l0 : w.heap.size < w1.heap.size := hX.lt
  go_wp2_with fail
  refine Calls.mono (h1 _) ?_
  rintro e w2 ⟨rfl, hb2⟩
  replace hX := hX.ext hb2
  replace hY := hY.ext hb2
  replace hZ := hZ.ext hb2
  replace hw0 := hw0.trans hb2
  clear y0 y1 y2 y3 ly l0 hb1 hb2
  have y0 : w2.cell? ⟨w.heap.size + 1, 0, none⟩ = some (.string f.nm) := hY.cell 0
  have y1 : w2.cell? ⟨w.heap.size + 1, 1, none⟩ = some (.int .i8 f.kd) := hY.cell 1
  have y2 : w2.cell? ⟨w.heap.size + 1, 2, none⟩ = some (.int .i16 f.st) := hY.cell 2
  have y3 : w2.cell? ⟨w.heap.size + 1, 3, none⟩ = some (.int .i16 f.sz) := hY.cell 3
  have ly := hY.lt
  have l0 : w.heap.size < w2.heap.size := hX.lt
  go_wp2_with fail
  refine Calls.mono (h2 _) ?_
  rintro e w3 ⟨rfl, hb3⟩
  replace hX := hX.ext hb3
  replace hY := hY.ext hb3
  replace hZ := hZ.ext hb3
  replace hw0 := hw0.trans hb3
  clear y0 y1 y2 y3 ly l0 hb3
  have x0 : w3.cell? ⟨w.heap.size, 0, none⟩ = some (.string c.nm) := hX.cell 0
  have x1 : w3.cell? ⟨w.heap.size, 1, none⟩ = some (.int .u64 (lo c.m)) := hX.cell 1
  have x2 : w3.cell? ⟨w.heap.size, 2, none⟩ = some (.int .u64 (hi c.m)) := hX.cell 2
  have lx := hX.lt
  have y0 : w3.cell? ⟨w.heap.size + 1, 0, none⟩ = some (.string f.nm) := hY.cell 0
  have y1 : w3.cell? ⟨w.heap.size + 1, 1, none⟩ = some (.int .i8 f.kd) := hY.cell 1
  have y2 : w3.cell? ⟨w.heap.size + 1, 2, none⟩ = some (.int .i16 f.st) := hY.cell 2
  have y3 : w3.cell? ⟨w.heap.size + 1, 3, none⟩ = some (.int .i16 f.sz) := hY.cell 3
  have ly := hY.lt
  go_wp2
  refine wp_region_ext_tail 9 9 (by kernel_rfl) (by kernel_rfl) (by intro d _ _ _ _ h; cases d <;> exact h) ?_
  simp only [List.take_succ_cons, List.take_zero, List.drop_succ_cons, List.drop_zero]
  repeat (first | go_big_quiet_step ((first | (go_at_call 26; with_reducible exact Calls.ext_of (h4 _)) | (go_at_call 31; with_reducible exact Calls.ext_of (h3 _)) | (go_at_call 20; with_reducible exact Calls.ext_of (h5 _)) | (go_at_call 36; with_reducible exact Calls.ext_of (h6 _)))) | quiet_step ((first | (go_at_call 26; with_reducible exact Calls.ext_of (h4 _)) | (go_at_call 31; with_reducible exact Calls.ext_of (h3 _)) | (go_at_call 20; with_reducible exact Calls.ext_of (h5 _)) | (go_at_call 36; with_reducible exact Calls.ext_of (h6 _)))))
  refine wpQuiet_nil ?_
  intro w4 hq4
  have hb4 := ext_of_class hq4
  clear hq4
  obtain ⟨hc4, hf4, hz4⟩ := bcell3 hb4
  try simp at hz4
  replace hX := hX.ext hb4
  replace hZ := hZ.ext hb4
  replace hw0 := hw0.trans hb4
  clear hc4 hf4 hb4 x0 x1 x2 y0 y1 y2 y3 lx ly hY
  have x0 : w4.cell? ⟨w.heap.size, 0, none⟩ = some (.string c.nm) := hX.cell 0
  have x1 : w4.cell? ⟨w.heap.size, 1, none⟩ = some (.int .u64 (lo c.m)) := hX.cell 1
  have x2 : w4.cell? ⟨w.heap.size, 2, none⟩ = some (.int .u64 (hi c.m)) := hX.cell 2
  have lx := hX.lt
  have f1 := hX.frozen 1
  have f2 := hX.frozen 2
  have lZ := hZ.lt
  have z0 : w4.cell? ⟨w.heap.size + 2, 0, none⟩ = some (.string ⟨#[]⟩) := hZ.cell 0
  have z1 : w4.cell? ⟨w.heap.size + 2, 1, none⟩ = some (.int .u64 0) := hZ.cell 1
  have z2 : w4.cell? ⟨w.heap.size + 2, 2, none⟩ = some (.int .u64 0) := hZ.cell 2
  have lz := hZ.lt
  have g0 := hZ.frozen 0
  have g1 := hZ.frozen 1
  have g2 := hZ.frozen 2
  go_wp2
  have hZf := ((((hZ.setOther (p := ⟨w.heap.size, 1, none⟩) (by dsimp only; omega) (.int .u64 (lo r))).setOther (p := ⟨w.heap.size, 2, none⟩) (by dsimp only; omega) (.int .u64 (hi r))).set 0 (.string c.nm)).set 1 (.int .u64 (lo r))).set 2 (.int .u64 (hi r))
  clear x0 x1 x2 z0 z1 z2 f1 f2 g0 g1 g2
  have c0 : World.cell? _ ⟨w.heap.size + 2, 0, none⟩ = some (.string c.nm) := hZf.cell 0
  have c1 : World.cell? _ ⟨w.heap.size + 2, 1, none⟩ = some (.int .u64 (lo r)) := hZf.cell 1
  have c2 : World.cell? _ ⟨w.heap.size + 2, 2, none⟩ = some (.int .u64 (hi r)) := hZf.cell 2
  refine bodyPost_ret (v := .tuple #[.agg #[.string c.nm, .int .u64 (lo r), .int .u64 (hi r)], .int .i64 0]) (by simp [results, Tryd.results17, go_sem, c0, c1, c2]) rfl ⟨rfl, ?_⟩
  exact Ext.set (by dsimp only; omega) (Ext.set (by dsimp only; omega) (Ext.set (by dsimp only; omega) (Ext.set (by dsimp only; omega) (Ext.set (by dsimp only; omega) hw0 _) _) _) _) _
set_option maxHeartbeats 1000000 in
theorem impl_ClearField (c : Crd) (hc : isCardB c = true) (hcs : c.nm.size ≤ 9223372036854775807) (f : Fld) (hf : fldB f = true) (hin : FldIn f) (w : World) :
    Calls Tryd.prog 19 #[.agg #[.string c.nm, .int .u64 (lo c.m), .int .u64 (hi c.m)], .agg #[.string f.nm, .int .i8 f.kd, .int .i16 f.st, .int .i16 f.sz]] w fun e w' => e = .returned (.tuple #[.agg #[.string c.nm, .int .u64 (lo (mless c.m (partF f))), .int .u64 (hi (mless c.m (partF f)))], .int .i64 0]) ∧ Ext w w' := by
  have hx := @ExtOf.cell
  have h0 := fun W => impl_isCard c hcs W
  rw [hc] at h0
  have h1 := fun W => isField_in f hin W
  rw [hf] at h1
  have h4 : ∀ W, Calls Tryd.prog 26 #[.agg #[.string f.nm, .int .i8 f.kd, .int .i16 f.st, .int .i16 f.sz]] W fun e w' => e = .returned (.agg #[.int .u64 (lo (partF f)), .int .u64 (hi (partF f))]) ∧ Ext W w' := fun W => impl_part f.nm f.kd f.st f.sz hf W
  have h5 := fun W => impl_LessMask c.m (partF f) W
  generalize mless c.m (partF f) = r at h5 ⊢
  generalize partF f = pt at h4 h5
  have hX : BoxAt (((w.alloc (.cells #[.string c.nm, .int .u64 (lo c.m), .int .u64 (hi c.m)] 44)).alloc (.cells #[.string f.nm, .int .i8 f.kd, .int .i16 f.st, .int .i16 f.sz] 29)).alloc (.cells #[.string ⟨#[]⟩, .int .u64 0, .int .u64 0] 44)) w.heap.size #[.string c.nm, .int .u64 (lo c.m), .int .u64 (hi c.m)] 44 := ((BoxAt.new' rfl).alloc _).alloc _
  have hY : BoxAt (((w.alloc (.cells #[.string c.nm, .int .u64 (lo c.m), .int .u64 (hi c.m)] 44)).alloc (.cells #[.string f.nm, .int .i8 f.kd, .int .i16 f.st, .int .i16 f.sz] 29)).alloc (.cells #[.string ⟨#[]⟩, .int .u64 0, .int .u64 0] 44)) (w.heap.size + 1) #[.string f.nm, .int .i8 f.kd, .int .i16 f.st, .int .i16 f.sz] 29 := (BoxAt.new' (by simp)).alloc _
  have hZ : BoxAt (((w.alloc (.cells #[.string c.nm, .int .u64 (lo c.m), .int .u64 (hi c.m)] 44)).alloc (.cells #[.string f.nm, .int .i8 f.kd, .int .i16 f.st, .int .i16 f.sz] 29)).alloc (.cells #[.string ⟨#[]⟩, .int .u64 0, .int .u64 0] 44)) (w.heap.size + 2) #[.string ⟨#[]⟩, .int .u64 0, .int .u64 0] 44 := BoxAt.new' (by simp)
  have hw0 : Ext w (((w.alloc (.cells #[.string c.nm, .int .u64 (lo c.m), .int .u64 (hi c.m)] 44)).alloc (.cells #[.string f.nm, .int .i8 f.kd, .int .i16 f.st, .int .i16 f.sz] 29)).alloc (.cells #[.string ⟨#[]⟩, .int .u64 0, .int .u64 0] 44)) := (((Ext.refl w).alloc _).alloc _).alloc _
  go_enter Tryd.func19, Tryd.ntmps19
  go_wp2_with fail
  refine Calls.mono (h0 _) ?_
  rintro e w1 ⟨rfl, hb1⟩
  replace hX := hX.ext hb1
  replace hY := hY.ext hb1
  replace hZ := hZ.ext hb1
  replace hw0 := hw0.trans hb1
  have y0 : w1.cell? ⟨w.heap.size + 1, 0, none⟩ = some (.string f.nm) := hY.cell 0
  have y1 : w1.cell? ⟨w.heap.size + 1, 1, none⟩ = some (.int .i8 f.kd) := hY.cell 1
  have y2 : w1.cell? ⟨w.heap.size + 1, 2, none⟩ = some (.int .i16 f.st) := hY.cell 2
  have y3 : w1.cell? ⟨w.heap.size + 1, 3, none⟩ = some (.int .i16 f.sz) := hY.cell 3
  have ly := hY.lt
  have l0 : w.heap.size < w1.heap.size := hX.lt
  go_wp2_with fail
  refine Calls.mono (h1 _) ?_
  rintro e w2 ⟨rfl, hb2⟩
  replace hX := hX.ext hb2
  replace hY := hY.ext hb2
  replace hZ := hZ.ext hb2
  replace hw0 := hw0.trans hb2
  clear y0 y1 y2 y3 ly l0 hb1 hb2
  have x0 : w2.cell? ⟨w.heap.size, 0, none⟩ = some (.string c.nm) := hX.cell 0
  have x1 : w2.cell? ⟨w.heap.size, 1, none⟩ = some (.int .u64 (lo c.m)) := hX.cell 1
  have x2 : w2.cell? ⟨w.heap.size, 2, none⟩ = some (.int .u64 (hi c.m)) := hX.cell 2
  have lx := hX.lt
  have y0 : w2.cell? ⟨w.heap.size + 1, 0, none⟩ = some (.string f.nm) := hY.cell 0
  have y1 : w2.cell? ⟨w.heap.size + 1, 1, none⟩ = some (.int .i8 f.kd) := hY.cell 1
  have y2 : w2.cell? ⟨w.heap.size + 1, 2, none⟩ = some (.int .i16 f.st) := hY.cell 2
  have y3 : w2.cell? ⟨w.heap.size + 1, 3, none⟩ = some (.int .i16 f.sz) := hY.cell 3
  have ly := hY.lt
  go_wp2
  refine wp_region_ext_tail 5 5 (by kernel_rfl) (by kernel_rfl) (by intro d _ _ _ _ h; cases d <;> exact h) ?_
  simp only [List.take_succ_cons, List.take_zero, List.drop_succ_cons, List.drop_zero]
  repeat (first | go_big_quiet_step ((first | (go_at_call 26; with_reducible exact Calls.ext_of (h4 _)) | (go_at_call 20; with_reducible exact Calls.ext_of (h5 _)))) | quiet_step ((first | (go_at_call 26; with_reducible exact Calls.ext_of (h4 _)) | (go_at_call 20; with_reducible exact Calls.ext_of (h5 _)))))
  refine wpQuiet_nil ?_
  intro w4 hq4
  have hb4 := ext_of_class hq4
  clear hq4
  obtain ⟨hc4, hf4, hz4⟩ := bcell3 hb4
  try simp at hz4
  replace hX := hX.ext hb4
  replace hZ := hZ.ext hb4
  replace hw0 := hw0.trans hb4
  clear hc4 hf4 hb4 x0 x1 x2 y0 y1 y2 y3 lx ly hY
  have x0 : w4.cell? ⟨w.heap.size, 0, none⟩ = some (.string c.nm) := hX.cell 0
  have x1 : w4.cell? ⟨w.heap.size, 1, none⟩ = some (.int .u64 (lo c.m)) := hX.cell 1
  have x2 : w4.cell? ⟨w.heap.size, 2, none⟩ = some (.int .u64 (hi c.m)) := hX.cell 2
  have lx := hX.lt
  have f1 := hX.frozen 1
  have f2 := hX.frozen 2
  have lZ := hZ.lt
  have z0 : w4.cell? ⟨w.heap.size + 2, 0, none⟩ = some (.string ⟨#[]⟩) := hZ.cell 0
  have z1 : w4.cell? ⟨w.heap.size + 2, 1, none⟩ = some (.int .u64 0) := hZ.cell 1
  have z2 : w4.cell? ⟨w.heap.size + 2, 2, none⟩ = some (.int .u64 0) := hZ.cell 2
  have lz := hZ.lt
  have g0 := hZ.frozen 0
  have g1 := hZ.frozen 1
  have g2 := hZ.frozen 2
  go_wp2
  have hZf := ((((hZ.setOther (p := ⟨w.heap.size, 1, none⟩) (by dsimp only; omega) (.int .u64 (lo r))).setOther (p := ⟨w.heap.size, 2, none⟩) (by dsimp only; omega) (.int .u64 (hi r))).set 0 (.string c.nm)).set 1 (.int .u64 (lo r))).set 2 (.int .u64 (hi r))
  clear x0 x1 x2 z0 z1 z2 f1 f2 g0 g1 g2
  have c0 : World.cell? _ ⟨w.heap.size + 2, 0, none⟩ = some (.string c.nm) := hZf.cell 0
  have c1 : World.cell? _ ⟨w.heap.size + 2, 1, none⟩ = some (.int .u64 (lo r)) := hZf.cell 1
  have c2 : World.cell? _ ⟨w.heap.size + 2, 2, none⟩ = some (.int .u64 (hi r)) := hZf.cell 2
  refine bodyPost_ret (v := .tuple #[.agg #[.string c.nm, .int .u64 (lo r), .int .u64 (hi r)], .int .i64 0]) (by simp [results, Tryd.results19, go_sem, c0, c1, c2]) rfl ⟨rfl, ?_⟩
  exact Ext.set (by dsimp only; omega) (Ext.set (by dsimp only; omega) (Ext.set (by dsimp only; omega) (Ext.set (by dsimp only; omega) (Ext.set (by dsimp only; omega) hw0 _) _) _) _) _
end Go.Proofs.YtciepjdacmjhlaaDoor
