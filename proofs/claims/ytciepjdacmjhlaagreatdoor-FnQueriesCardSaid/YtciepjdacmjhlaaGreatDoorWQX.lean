/-
  WQX: the texts EQ FW0 F25 F26 G8 D2 FQ0 DK0 WQ0 WQ1 WQ2 WQ3 in one (written by merge.py).
-/
import Derived.Test.YtciepjdacmjhlaaGreatDoorK0
import Derived.Test.YtciepjdacmjhlaaGreatDoorC1
import Derived.Test.YtciepjdacmjhlaaGreatDoorF23
import Derived.Test.YtciepjdacmjhlaaGreatDoorF12
import Derived.Test.YtciepjdacmjhlaaGreatDoorFDX
import Derived.Test.YtciepjdacmjhlaaGreatDoorK1
import Derived.Test.YtciepjdacmjhlaaGreatDoorC3
import Derived.Test.YtciepjdacmjhlaaGreatDoorMA
import Derived.Test.YtciepjdacmjhlaaGreatDoorF19
set_option linter.unusedVariables false
set_option linter.unusedSimpArgs false
set_option maxRecDepth 100000
namespace Go.Proofs.YtciepjdacmjhlaaGreatDoor
open Go.RowKit
theorem eqA_Card (d : Nat) (a a' : ByteArray) (c f c' f' : Int) (w : World) :
    (Op.equalIn (d + 3) 59 (.agg #[.string a, .int .u64 c, .int .u64 f]) (.agg #[.string a', .int .u64 c', .int .u64 f'])).run Tryz.prog w = .ok ((a.toList == a'.toList) && (c == c' && f == f')) w := by
  have e := eqA_Mask d
  rw [Op.equalIn]
  simp only [Sem.run_bind, run_underlying Tryz.underlying59, Result.andThen_ok, Std.Legacy.Range.forIn_eq_forIn_range', Std.Legacy.Range.size]
  go_simp
  by_cases h1 : a.toList = a'.toList <;> by_cases h3 : c = c' <;> by_cases h4 : f = f' <;> simp [h1, h3, h4]
end Go.Proofs.YtciepjdacmjhlaaGreatDoor
set_option linter.unusedVariables false
set_option linter.unusedSimpArgs false
set_option maxRecDepth 100000
namespace Go.Proofs.YtciepjdacmjhlaaGreatDoor
open Go.RowKit
theorem impl_EncodeField (f : Fld) (hf : fldB f = true) (hin : FldIn f) (v : Int) (v0 : 0 ≤ v) (v1 : v ≤ mostF f) (w : World) :
    Calls Tryz.prog 44 #[.agg #[.string f.nm, .int .i8 f.kd, .int .i16 f.st, .int .i16 f.sz], .int .i64 v] w fun e w' => e = .returned (.tuple #[.agg #[.int .u64 (lo (codeF f v)), .int .u64 (hi (codeF f v))], .int .i64 0]) ∧ Ext w w' := by
  have h1 := fun W => isField_in f hin W
  rw [hf] at h1
  obtain ⟨_, k0, k3, s0, z0, z1, z2⟩ := fldB_parts hf
  have h2 : ∀ W, Calls Tryz.prog 89 #[.agg #[.string f.nm, .int .i8 f.kd, .int .i16 f.st, .int .i16 f.sz]] W fun e w' => e = .returned (.int .i64 (mostF f)) ∧ Ext W w' := fun W => impl_most f.nm f.kd f.st f.sz k0 k3 z0 z1 W
  have h3 : ∀ W, Calls Tryz.prog 90 #[.agg #[.string f.nm, .int .i8 f.kd, .int .i16 f.st, .int .i16 f.sz], .int .i64 v] W fun e w' => e = .returned (.agg #[.int .u64 (lo (codeF f v)), .int .u64 (hi (codeF f v))]) ∧ Ext W w' := fun W => impl_encode f.nm f.kd f.st f.sz v hf v0 v1 W
  generalize codeF f v = p at h3 ⊢
  generalize mostF f = mo at h2 v1
  have i1 : (v < 0) = False := eq_false (by omega)
  have i2 : (mo < v) = False := eq_false (by omega)
  have hX : BoxAt ((w.alloc (.cells #[.string f.nm, .int .i8 f.kd, .int .i16 f.st, .int .i16 f.sz] 36)).alloc (.cells #[.int .u64 0, .int .u64 0] 42)) w.heap.size #[.string f.nm, .int .i8 f.kd, .int .i16 f.st, .int .i16 f.sz] 36 := (BoxAt.new' rfl).alloc _
  have hY : BoxAt ((w.alloc (.cells #[.string f.nm, .int .i8 f.kd, .int .i16 f.st, .int .i16 f.sz] 36)).alloc (.cells #[.int .u64 0, .int .u64 0] 42)) (w.heap.size + 1) #[.int .u64 0, .int .u64 0] 42 := BoxAt.new' (by simp)
  go_enter Tryz.func44, Tryz.ntmps44
  go_wp2_with fail
  refine Calls.mono (h1 _) ?_
  rintro e w1 ⟨rfl, hb1⟩
  replace hX := hX.ext hb1
  replace hY := hY.ext hb1
  have x0 : w1.cell? ⟨w.heap.size, 0, none⟩ = some (.string f.nm) := hX.cell 0
  have x1 : w1.cell? ⟨w.heap.size, 1, none⟩ = some (.int .i8 f.kd) := hX.cell 1
  have x2 : w1.cell? ⟨w.heap.size, 2, none⟩ = some (.int .i16 f.st) := hX.cell 2
  have x3 : w1.cell? ⟨w.heap.size, 3, none⟩ = some (.int .i16 f.sz) := hX.cell 3
  have lx := hX.lt
  go_wp2_with fail
  refine Calls.mono (h2 _) ?_
  rintro e w2 ⟨rfl, hb2⟩
  replace hX := hX.ext hb2
  replace hY := hY.ext hb2
  clear x0 x1 x2 x3 lx
  have x0 : w2.cell? ⟨w.heap.size, 0, none⟩ = some (.string f.nm) := hX.cell 0
  have x1 : w2.cell? ⟨w.heap.size, 1, none⟩ = some (.int .i8 f.kd) := hX.cell 1
  have x2 : w2.cell? ⟨w.heap.size, 2, none⟩ = some (.int .i16 f.st) := hX.cell 2
  have x3 : w2.cell? ⟨w.heap.size, 3, none⟩ = some (.int .i16 f.sz) := hX.cell 3
  have lx := hX.lt
  go_wp2_with fail
  refine Calls.mono (h3 _) ?_
  rintro e w3 ⟨rfl, hb3⟩
  replace hY := hY.ext hb3
  have hw := (((((Ext.refl w).alloc (.cells #[.string f.nm, .int .i8 f.kd, .int .i16 f.st, .int .i16 f.sz] 36)).alloc (.cells #[.int .u64 0, .int .u64 0] 42)).trans hb1).trans hb2).trans hb3
  clear x0 x1 x2 x3 lx hX hb1 hb2 hb3 h1 h2 h3 i1 i2
  have ry0 : w3.cell? ⟨w.heap.size + 1, 0, none⟩ = some (.int .u64 0) := hY.cell 0
  have ry1 : w3.cell? ⟨w.heap.size + 1, 1, none⟩ = some (.int .u64 0) := hY.cell 1
  have rf0 := hY.frozen 0
  have rf1 := hY.frozen 1
  have rl := hY.lt
  go_wp2
  have rYf := ((hY.set 0 (.int .u64 (lo p))).set 1 (.int .u64 (hi p)))
  clear ry0 rf0 ry1 rf1
  have rc0 : World.cell? _ ⟨w.heap.size + 1, 0, none⟩ = some (.int .u64 (lo p)) := rYf.cell 0
  have rc1 : World.cell? _ ⟨w.heap.size + 1, 1, none⟩ = some (.int .u64 (hi p)) := rYf.cell 1
  refine bodyPost_ret (v := .tuple #[.agg #[.int .u64 (lo p), .int .u64 (hi p)], .int .i64 0]) (by simp [results, Tryz.results44, go_sem, rc0, rc1]) rfl ⟨rfl, ?_⟩
  exact Ext.set (by dsimp only; omega) (Ext.set (by dsimp only; omega) (hw) _) _
theorem impl_EncodeField_far (f : Fld) (hf : fldB f = true) (hin : FldIn f) (v : Int) (v1 : mostF f < v) (w : World) :
    Calls Tryz.prog 44 #[.agg #[.string f.nm, .int .i8 f.kd, .int .i16 f.st, .int .i16 f.sz], .int .i64 v] w fun e w' => e = .returned (.tuple #[.agg #[.int .u64 0, .int .u64 0], .int .i64 2]) ∧ Ext w w' := by
  have h1 := fun W => isField_in f hin W
  rw [hf] at h1
  obtain ⟨_, k0, k3, s0, z0, z1, z2⟩ := fldB_parts hf
  have hm := (mostF_le f hf).1
  have h2 : ∀ W, Calls Tryz.prog 89 #[.agg #[.string f.nm, .int .i8 f.kd, .int .i16 f.st, .int .i16 f.sz]] W fun e w' => e = .returned (.int .i64 (mostF f)) ∧ Ext W w' := fun W => impl_most f.nm f.kd f.st f.sz k0 k3 z0 z1 W
  generalize mostF f = mo at h2 v1 hm
  have i1 : (v < 0) = False := eq_false (by omega)
  have hX : BoxAt ((w.alloc (.cells #[.string f.nm, .int .i8 f.kd, .int .i16 f.st, .int .i16 f.sz] 36)).alloc (.cells #[.int .u64 0, .int .u64 0] 42)) w.heap.size #[.string f.nm, .int .i8 f.kd, .int .i16 f.st, .int .i16 f.sz] 36 := (BoxAt.new' rfl).alloc _
  have hY : BoxAt ((w.alloc (.cells #[.string f.nm, .int .i8 f.kd, .int .i16 f.st, .int .i16 f.sz] 36)).alloc (.cells #[.int .u64 0, .int .u64 0] 42)) (w.heap.size + 1) #[.int .u64 0, .int .u64 0] 42 := BoxAt.new' (by simp)
  go_enter Tryz.func44, Tryz.ntmps44
  go_wp2_with fail
  refine Calls.mono (h1 _) ?_
  rintro e w1 ⟨rfl, hb1⟩
  replace hX := hX.ext hb1
  replace hY := hY.ext hb1
  have x0 : w1.cell? ⟨w.heap.size, 0, none⟩ = some (.string f.nm) := hX.cell 0
  have x1 : w1.cell? ⟨w.heap.size, 1, none⟩ = some (.int .i8 f.kd) := hX.cell 1
  have x2 : w1.cell? ⟨w.heap.size, 2, none⟩ = some (.int .i16 f.st) := hX.cell 2
  have x3 : w1.cell? ⟨w.heap.size, 3, none⟩ = some (.int .i16 f.sz) := hX.cell 3
  have lx := hX.lt
  go_wp2_with fail
  refine Calls.mono (h2 _) ?_
  rintro e w2 ⟨rfl, hb2⟩
  replace hY := hY.ext hb2
  have hw := ((((Ext.refl w).alloc (.cells #[.string f.nm, .int .i8 f.kd, .int .i16 f.st, .int .i16 f.sz] 36)).alloc (.cells #[.int .u64 0, .int .u64 0] 42)).trans hb1).trans hb2
  clear x0 x1 x2 x3 lx hX hb1 hb2 h1 h2 i1
  have ry0 : w2.cell? ⟨w.heap.size + 1, 0, none⟩ = some (.int .u64 0) := hY.cell 0
  have ry1 : w2.cell? ⟨w.heap.size + 1, 1, none⟩ = some (.int .u64 0) := hY.cell 1
  have rf0 := hY.frozen 0
  have rf1 := hY.frozen 1
  have rl := hY.lt
  go_wp2
  have rYf := ((hY.set 0 (.int .u64 0)).set 1 (.int .u64 0))
  clear ry0 rf0 ry1 rf1
  have rc0 : World.cell? _ ⟨w.heap.size + 1, 0, none⟩ = some (.int .u64 0) := rYf.cell 0
  have rc1 : World.cell? _ ⟨w.heap.size + 1, 1, none⟩ = some (.int .u64 0) := rYf.cell 1
  refine bodyPost_ret (v := .tuple #[.agg #[.int .u64 0, .int .u64 0], .int .i64 2]) (by simp [results, Tryz.results44, go_sem, rc0, rc1]) rfl ⟨rfl, ?_⟩
  exact Ext.set (by dsimp only; omega) (Ext.set (by dsimp only; omega) (hw) _) _
theorem impl_DecodeField (f : Fld) (hf : fldB f = true) (hin : FldIn f) (m : Mask) (hm : isMaskB m = true) (w : World) :
    Calls Tryz.prog 26 #[.agg #[.string f.nm, .int .i8 f.kd, .int .i16 f.st, .int .i16 f.sz], .agg #[.int .u64 (lo m), .int .u64 (hi m)]] w fun e w' => e = .returned (.tuple #[.int .i64 (valueF f m).1, .int .i64 (valueF f m).2]) ∧ Ext w w' := by
  have h1 := fun W => isField_in f hin W
  rw [hf] at h1
  have h2 := fun W => impl_isMask m W
  rw [hm] at h2
  have h3 : ∀ W, Calls Tryz.prog 65 #[.agg #[.string f.nm, .int .i8 f.kd, .int .i16 f.st, .int .i16 f.sz], .agg #[.int .u64 (lo m), .int .u64 (hi m)]] W fun e w' => e = .returned (.tuple #[.int .i64 (valueF f m).1, .int .i64 (valueF f m).2]) ∧ Ext W w' := fun W => impl_decode f.nm f.kd f.st f.sz hf m W
  generalize valueF f m = q at h3 ⊢
  have hX : BoxAt ((w.alloc (.cells #[.string f.nm, .int .i8 f.kd, .int .i16 f.st, .int .i16 f.sz] 36)).alloc (.cells #[.int .u64 (lo m), .int .u64 (hi m)] 42)) w.heap.size #[.string f.nm, .int .i8 f.kd, .int .i16 f.st, .int .i16 f.sz] 36 := (BoxAt.new' rfl).alloc _
  have hY : BoxAt ((w.alloc (.cells #[.string f.nm, .int .i8 f.kd, .int .i16 f.st, .int .i16 f.sz] 36)).alloc (.cells #[.int .u64 (lo m), .int .u64 (hi m)] 42)) (w.heap.size + 1) #[.int .u64 (lo m), .int .u64 (hi m)] 42 := BoxAt.new' (by simp)
  go_enter Tryz.func26, Tryz.ntmps26
  go_wp2_with fail
  refine Calls.mono (h1 _) ?_
  rintro e w1 ⟨rfl, hb1⟩
  replace hX := hX.ext hb1
  replace hY := hY.ext hb1
  have y0 : w1.cell? ⟨w.heap.size + 1, 0, none⟩ = some (.int .u64 (lo m)) := hY.cell 0
  have y1 : w1.cell? ⟨w.heap.size + 1, 1, none⟩ = some (.int .u64 (hi m)) := hY.cell 1
  have ly := hY.lt
  have l0 : w.heap.size < w1.heap.size := hX.lt
  go_wp2_with fail
  refine Calls.mono (h2 _) ?_
  rintro e w2 ⟨rfl, hb2⟩
  replace hX := hX.ext hb2
  replace hY := hY.ext hb2
  clear y0 y1 ly l0
  have x0 : w2.cell? ⟨w.heap.size, 0, none⟩ = some (.string f.nm) := hX.cell 0
  have x1 : w2.cell? ⟨w.heap.size, 1, none⟩ = some (.int .i8 f.kd) := hX.cell 1
  have x2 : w2.cell? ⟨w.heap.size, 2, none⟩ = some (.int .i16 f.st) := hX.cell 2
  have x3 : w2.cell? ⟨w.heap.size, 3, none⟩ = some (.int .i16 f.sz) := hX.cell 3
  have lx := hX.lt
  have y0 : w2.cell? ⟨w.heap.size + 1, 0, none⟩ = some (.int .u64 (lo m)) := hY.cell 0
  have y1 : w2.cell? ⟨w.heap.size + 1, 1, none⟩ = some (.int .u64 (hi m)) := hY.cell 1
  have ly := hY.lt
  go_wp2_with fail
  refine Calls.mono (h3 _) ?_
  rintro e w3 ⟨rfl, hb3⟩
  go_wp2
  go_ret2
  exact ⟨rfl, ((((Ext.refl w).alloc _).alloc _).trans hb1 |>.trans hb2).trans hb3⟩
theorem impl_IsWithin (a b : Mask) (w : World) :
    Calls Tryz.prog 104 #[.agg #[.int .u64 (lo a), .int .u64 (hi a)], .agg #[.int .u64 (lo b), .int .u64 (hi b)]] w fun e w' => e = .returned (.bool (mzero (mless a b))) ∧ Ext w w' := by
  have h1 := fun W => impl_LessMask a b W
  have e1 := lohi_zero (mless a b)
  have e2 := eqA_Mask
  generalize mless a b = q at h1 e1 ⊢
  go_enter Tryz.func104, Tryz.ntmps104
  go_wp2_with fail
  refine Calls.mono (h1 _) ?_
  rintro e w1 ⟨rfl, hb1⟩
  go_wp2
  go_ret
  exact ⟨rfl, ((((Ext.refl w).alloc _).alloc _)).trans hb1⟩
theorem spec_MostOf (f : Fld) (hf : fldB f = true) (hin : FldIn f) (w : World) :
    Calls Tryz.prog 14 #[.agg #[.string f.nm, .int .i8 f.kd, .int .i16 f.st, .int .i16 f.sz]] w fun e w' => e = .returned (.tuple #[.int .i64 (mostF f), .int .i64 0]) ∧ Ext w w' := by
  have h1 := fun b o W h => l01Field_in f hin b o W h
  rw [hf] at h1
  have h2 := fun b o W h => spec_l01Most f hf b o W h
  have hX : BoxAt (w.alloc (.cells #[.string f.nm, .int .i8 f.kd, .int .i16 f.st, .int .i16 f.sz] 36)) w.heap.size #[.string f.nm, .int .i8 f.kd, .int .i16 f.st, .int .i16 f.sz] 36 := BoxAt.new' rfl
  have hF : FldAt (w.alloc (.cells #[.string f.nm, .int .i8 f.kd, .int .i16 f.st, .int .i16 f.sz] 36)) w.heap.size 0 f := ⟨hX.cell 0, hX.cell 1, hX.cell 2, hX.cell 3⟩
  go_enter Tryz.func14, Tryz.ntmps14
  go_wp2_with fail
  refine Calls.mono (h1 _ _ _ hF) ?_
  rintro e w1 ⟨rfl, hb1⟩
  go_wp2_with fail
  refine Calls.mono (h2 _ _ _ (hF.ext hb1)) ?_
  rintro e w2 ⟨rfl, hb2⟩
  go_wp2
  go_ret2
  exact ⟨rfl, (((Ext.refl w).alloc _).trans hb1).trans hb2⟩
theorem spec_EncodeField (f : Fld) (hf : fldB f = true) (hin : FldIn f) (v : Int) (v0 : 0 ≤ v) (v1 : v ≤ mostF f) (w : World) :
    Calls Tryz.prog 47 #[.agg #[.string f.nm, .int .i8 f.kd, .int .i16 f.st, .int .i16 f.sz], .int .i64 v] w fun e w' => e = .returned (.tuple #[.agg #[.int .u64 (lo (codeF f v)), .int .u64 (hi (codeF f v))], .int .i64 0]) ∧ Ext w w' := by
  have h1 := fun b o W h => l01Field_in f hin b o W h
  rw [hf] at h1
  have h2 := fun b o W h => spec_l01Most f hf b o W h
  have h3 := fun b o W h => spec_l01Code f hf v v0 v1 b o W h
  generalize codeF f v = p at h3 ⊢
  have h4 := fun W => spec_l00In v 0 (mostF f) W
  rw [show inB v 0 (mostF f) = true by unfold inB; rw [decide_eq_true v0, decide_eq_true v1]; rfl] at h4
  generalize mostF f = mo at h2 h4
  have hX : BoxAt ((w.alloc (.cells #[.string f.nm, .int .i8 f.kd, .int .i16 f.st, .int .i16 f.sz] 36)).alloc (.cells #[.int .u64 0, .int .u64 0] 42)) w.heap.size #[.string f.nm, .int .i8 f.kd, .int .i16 f.st, .int .i16 f.sz] 36 := (BoxAt.new' rfl).alloc _
  have hF : FldAt ((w.alloc (.cells #[.string f.nm, .int .i8 f.kd, .int .i16 f.st, .int .i16 f.sz] 36)).alloc (.cells #[.int .u64 0, .int .u64 0] 42)) w.heap.size 0 f := ⟨hX.cell 0, hX.cell 1, hX.cell 2, hX.cell 3⟩
  have hY : BoxAt ((w.alloc (.cells #[.string f.nm, .int .i8 f.kd, .int .i16 f.st, .int .i16 f.sz] 36)).alloc (.cells #[.int .u64 0, .int .u64 0] 42)) (w.heap.size + 1) #[.int .u64 0, .int .u64 0] 42 := BoxAt.new' (by simp)
  go_enter Tryz.func47, Tryz.ntmps47
  go_wp2_with fail
  refine Calls.mono (h1 _ _ _ hF) ?_
  rintro e w1 ⟨rfl, hb1⟩
  go_wp2_with fail
  refine Calls.mono (h2 _ _ _ (hF.ext hb1)) ?_
  rintro e w2 ⟨rfl, hb2⟩
  go_wp2_with fail
  refine Calls.mono (h4 _) ?_
  rintro e w3 ⟨rfl, hb3⟩
  go_wp2_with fail
  refine Calls.mono (h3 _ _ _ (((hF.ext hb1).ext hb2).ext hb3)) ?_
  rintro e w4 ⟨rfl, hb4⟩
  replace hY := (((hY.ext hb1).ext hb2).ext hb3).ext hb4
  have hw := ((((((Ext.refl w).alloc (.cells #[.string f.nm, .int .i8 f.kd, .int .i16 f.st, .int .i16 f.sz] 36)).alloc (.cells #[.int .u64 0, .int .u64 0] 42)).trans hb1).trans hb2).trans hb3).trans hb4
  clear hX hF hb1 hb2 hb3 hb4 h1 h2 h3 h4 v0 v1
  have ry0 : w4.cell? ⟨w.heap.size + 1, 0, none⟩ = some (.int .u64 0) := hY.cell 0
  have ry1 : w4.cell? ⟨w.heap.size + 1, 1, none⟩ = some (.int .u64 0) := hY.cell 1
  have rf0 := hY.frozen 0
  have rf1 := hY.frozen 1
  have rl := hY.lt
  go_wp2
  have rYf := ((hY.set 0 (.int .u64 (lo p))).set 1 (.int .u64 (hi p)))
  clear ry0 rf0 ry1 rf1
  have rc0 : World.cell? _ ⟨w.heap.size + 1, 0, none⟩ = some (.int .u64 (lo p)) := rYf.cell 0
  have rc1 : World.cell? _ ⟨w.heap.size + 1, 1, none⟩ = some (.int .u64 (hi p)) := rYf.cell 1
  refine bodyPost_ret (v := .tuple #[.agg #[.int .u64 (lo p), .int .u64 (hi p)], .int .i64 0]) (by simp [results, Tryz.results47, go_sem, rc0, rc1]) rfl ⟨rfl, ?_⟩
  exact Ext.set (by dsimp only; omega) (Ext.set (by dsimp only; omega) (hw) _) _
end Go.Proofs.YtciepjdacmjhlaaGreatDoor
set_option linter.unusedVariables false
set_option linter.unusedSimpArgs false
set_option maxRecDepth 100000
namespace Go.Proofs.YtciepjdacmjhlaaGreatDoor
open Go.RowKit
/-- The elements of a slice of doubts. -/
def encDbt : Enc (Int × Int) where
  enc d := [.int .i64 d.1, .int .i64 d.2]
  sz := 2
  len _ := rfl
  one d u hu := by
    simp only [List.mem_cons, List.not_mem_nil, or_false] at hu
    rcases hu with rfl | rfl <;> rfl
  pos := by decide
theorem Rd.dbt {w : World} {b off : Nat} {xs : List (Int × Int)} (h : Rd encDbt w (some ⟨b, off, none⟩) xs) (k : Nat) (hk : k < xs.length) :
    w.cell? ⟨b, off + k * 2, none⟩ = some (.int .i64 xs[k].1) ∧ w.cell? ⟨b, off + k * 2 + 1, none⟩ = some (.int .i64 xs[k].2) ∧ b < w.heap.size := by
  obtain ⟨b', off', e1, hlt, hc⟩ := h k hk
  simp only [Option.some.injEq, Addr.mk.injEq, and_true] at e1
  obtain ⟨rfl, rfl⟩ := e1
  exact ⟨hc 0 _ rfl, hc 1 _ rfl, hlt⟩
def dbtB (x y : Int × Int) : Bool := (x.1 == y.1) && (x.2 == y.2)
theorem dbtB_refl (x : Int × Int) : dbtB x x = true := by simp [dbtB]
/-- The doubts of the first fields of one card. -/
def rowTo (xs : List Fld) (m : Mask) (i : Nat) : Nat → List (Int × Int)
  | 0 => []
  | k + 1 => if (valueF xs[k]! m).2 = 8 then rowTo xs m i k ++ [((i : Int), (k : Int))] else rowTo xs m i k
theorem rowTo_zero (xs : List Fld) (m : Mask) (i : Nat) : rowTo xs m i 0 = [] := rfl
theorem rowTo_hit {xs : List Fld} {m : Mask} {i k : Nat} (hk : k < xs.length) (h : (valueF xs[k] m).2 = 8) : rowTo xs m i (k + 1) = rowTo xs m i k ++ [((i : Int), (k : Int))] := by rw [rowTo, getF xs k hk, if_pos h]
theorem rowTo_miss {xs : List Fld} {m : Mask} {i k : Nat} (hk : k < xs.length) (h : ¬ (valueF xs[k] m).2 = 8) : rowTo xs m i (k + 1) = rowTo xs m i k := by rw [rowTo, getF xs k hk, if_neg h]
theorem rowTo_len (xs : List Fld) (m : Mask) (i : Nat) : ∀ k, (rowTo xs m i k).length ≤ k
  | 0 => Nat.le_refl _
  | k + 1 => by
    have := rowTo_len xs m i k
    rw [rowTo]
    split
    · rw [List.length_append, List.length_singleton]; omega
    · omega
theorem getC (cs : List Crd) (k : Nat) (hk : k < cs.length) : cs[k]! = cs[k] := getElem!_pos cs k hk
/-- The doubts of the first cards. -/
def doubTo (xs : List Fld) (cs : List Crd) : Nat → List (Int × Int)
  | 0 => []
  | i + 1 => doubTo xs cs i ++ rowTo xs cs[i]!.m i xs.length
theorem doubTo_zero (xs : List Fld) (cs : List Crd) : doubTo xs cs 0 = [] := rfl
theorem doubTo_succ (xs : List Fld) (cs : List Crd) (i : Nat) (hi : i < cs.length) : doubTo xs cs (i + 1) = doubTo xs cs i ++ rowTo xs cs[i].m i xs.length := by rw [doubTo, getC cs i hi]
theorem doubTo_len (xs : List Fld) (cs : List Crd) : ∀ i, (doubTo xs cs i).length ≤ i * xs.length
  | 0 => by simp [doubTo]
  | i + 1 => by
    have h1 := doubTo_len xs cs i
    have h2 := rowTo_len xs cs[i]!.m i xs.length
    rw [doubTo, List.length_append, Nat.succ_mul]
    omega
/-- What DoubtsOf returns. -/
def doubtsF (xs : List Fld) (cs : List Crd) : List (Int × Int) × Int :=
  if (schB xs && cs.all isCardB) = true then (if 60 < cs.length then ([], 2) else (doubTo xs cs cs.length, 0)) else ([], 1)
theorem doubts_bad {xs : List Fld} {cs : List Crd} (h : (schB xs && cs.all isCardB) = false) : doubtsF xs cs = ([], 1) := by unfold doubtsF; rw [h]; rfl
theorem doubts_long {xs : List Fld} {cs : List Crd} (h : (schB xs && cs.all isCardB) = true) (h2 : 60 < cs.length) : doubtsF xs cs = ([], 2) := by unfold doubtsF; rw [if_pos h, if_pos h2]
theorem doubts_good {xs : List Fld} {cs : List Crd} (h : (schB xs && cs.all isCardB) = true) (h2 : ¬ 60 < cs.length) : doubtsF xs cs = (doubTo xs cs cs.length, 0) := by unfold doubtsF; rw [if_pos h, if_neg h2]
theorem doubts_len (xs : List Fld) (cs : List Crd) : (doubtsF xs cs).1.length ≤ 1048576 := by
  unfold doubtsF
  split
  · rename_i h
    rw [Bool.and_eq_true] at h
    split
    · simp
    · rename_i h2
      have h12 := (sch_all h.1).1
      have h3 := doubTo_len xs cs cs.length
      have h4 : cs.length * xs.length ≤ 60 * 12 := Nat.mul_le_mul (by omega) h12
      show (doubTo xs cs cs.length).length ≤ 1048576
      omega
  · simp
attribute [irreducible] doubtsF rowTo doubTo
def markD (k : Nat) : Int × Int := ((k : Int), (k : Int) + 1)
/-- The marked doubts from k on, n of them. -/
def upDb (k : Nat) : Nat → List (Int × Int)
  | 0 => []
  | n + 1 => markD k :: upDb (k + 2) n
theorem upDb_len : ∀ (n k : Nat), (upDb k n).length = n
  | 0, _ => rfl
  | n + 1, k => by rw [upDb, List.length_cons, upDb_len n]
theorem upDb_get : ∀ (n k i : Nat) (h : i < (upDb k n).length), (upDb k n)[i] = markD (k + 2 * i)
  | 0, _, _, h => by simp [upDb] at h
  | n + 1, k, 0, _ => rfl
  | n + 1, k, i + 1, h => by
    show (upDb (k + 2) n)[i]'_ = _
    rw [upDb_get n (k + 2) i, show k + 2 + 2 * i = k + 2 * (i + 1) by omega]
theorem upDb_snoc : ∀ (n k : Nat), upDb k (n + 1) = upDb k n ++ [markD (k + 2 * n)]
  | 0, _ => rfl
  | n + 1, k => by
    rw [upDb, upDb_snoc n (k + 2), show k + 2 + 2 * n = k + 2 * (n + 1) by omega]
    rfl
def markDTo (xs : List (Int × Int)) (k i : Nat) : List (Int × Int) := (upDb k i) ++ xs.drop i
theorem markDTo_len (xs : List (Int × Int)) (k i : Nat) (h : i ≤ xs.length) : (markDTo xs k i).length = xs.length := by
  unfold markDTo
  rw [List.length_append, upDb_len, List.length_drop]
  omega
theorem markDTo_set (xs : List (Int × Int)) (k i : Nat) (h : i < xs.length) : (markDTo xs k i).set i (markD (k + 2 * i)) = markDTo xs k (i + 1) := by
  unfold markDTo
  rw [List.set_append_right _ _ (by rw [upDb_len]; omega), upDb_len, Nat.sub_self, List.drop_eq_getElem_cons h, List.set_cons_zero, upDb_snoc, List.append_assoc]
  rfl
theorem markDTo_all (xs : List (Int × Int)) (k : Nat) : markDTo xs k xs.length = upDb k xs.length := by
  unfold markDTo
  rw [List.drop_length, List.append_nil]
end Go.Proofs.YtciepjdacmjhlaaGreatDoor
set_option linter.unusedVariables false
set_option linter.unusedSimpArgs false
set_option maxRecDepth 100000
namespace Go.Proofs.YtciepjdacmjhlaaGreatDoor
open Go.RowKit
/-- What is known of a card in memory. -/
def CrdIn (c : Crd) : Prop := c.nm.size ≤ 9223372036854775807
end Go.Proofs.YtciepjdacmjhlaaGreatDoor
set_option linter.unusedVariables false
namespace Go.Proofs.YtciepjdacmjhlaaGreatDoor
open Go.RowKit
/-- Are all cards valid, and no two of the same name? -/
def okD (ds : List Crd) : Bool := ds.all isCardB && decide ((ds.map Crd.nm).Nodup)
def deckB (ds : List Crd) : Bool := decide (ds.length ≤ 80) && okD ds
theorem okD_nil : okD [] = true := by simp [okD]
theorem okD_snoc (ds : List Crd) (c : Crd) : okD (ds ++ [c]) = (okD ds && (isCardB c && !ds.any (fun x => decide (x.nm = c.nm)))) := by
  rw [Bool.eq_iff_iff]
  simp only [okD, List.all_append, List.all_cons, List.all_nil, Bool.and_true, Bool.and_eq_true, decide_eq_true_eq, List.map_append, List.map_cons, List.map_nil, Bool.not_eq_true', List.any_eq_false]
  rw [List.nodup_append]
  constructor
  · rintro ⟨⟨h1, h2⟩, h3, _, h5⟩
    exact ⟨⟨h1, h3⟩, h2, fun x hx h => h5 _ (List.mem_map_of_mem hx) c.nm (by simp) h⟩
  · rintro ⟨⟨h1, h3⟩, h2, h4⟩
    refine ⟨⟨h1, h2⟩, h3, by simp, fun a ha b hb hab => ?_⟩
    obtain ⟨x, hx, rfl⟩ := List.mem_map.1 ha
    rw [List.mem_singleton] at hb
    exact h4 x hx (hab.trans hb)
theorem okD_perm {xs ys : List Crd} (h : xs.Perm ys) : okD xs = okD ys := by
  unfold okD
  rw [h.all_eq, Bool.eq_iff_iff]
  simp only [Bool.and_eq_true, decide_eq_true_eq]
  rw [(h.map Crd.nm).nodup_iff]
theorem deckB_perm {xs ys : List Crd} (h : xs.Perm ys) : deckB xs = deckB ys := by unfold deckB; rw [okD_perm h, h.length_eq]
/-- Two decks put together by a key. -/
def mergeF (key : Crd → Int) (a b : List Crd) : List Crd := List.merge a b fun x y => decide (key x ≤ key y)
theorem mergeF_perm (key : Crd → Int) (a b : List Crd) : (mergeF key a b).Perm (a ++ b) := List.merge_perm_append _
theorem mergeF_ok (key : Crd → Int) (a b : List Crd) : deckB (mergeF key a b) = deckB (a ++ b) := deckB_perm (mergeF_perm key a b)
theorem mergeF_right (key : Crd → Int) (x y : Crd) (a b : List Crd) (h : key y < key x) : mergeF key (x :: a) (y :: b) = y :: mergeF key (x :: a) b := by
  unfold mergeF; rw [List.cons_merge_cons_neg]; simpa using h
theorem mergeF_left (key : Crd → Int) (x y : Crd) (a b : List Crd) (h : ¬ key y < key x) : mergeF key (x :: a) (y :: b) = x :: mergeF key a (y :: b) := by
  unfold mergeF; rw [List.cons_merge_cons_pos]; simpa using h
theorem mergeF_nil (key : Crd → Int) (a : List Crd) : mergeF key a [] = a := by unfold mergeF; exact List.merge_right _
theorem nil_mergeF (key : Crd → Int) (b : List Crd) : mergeF key [] b = b := by unfold mergeF; exact List.nil_merge _
end Go.Proofs.YtciepjdacmjhlaaGreatDoor
set_option linter.unusedVariables false
set_option linter.unusedSimpArgs false
set_option maxRecDepth 100000
namespace Go.Proofs.YtciepjdacmjhlaaGreatDoor
open Go.RowKit
def hasNm (ds : List Crd) (nm : ByteArray) : Bool := ds.any fun y => y.nm.toList == nm.toList
theorem txt_eq (x y : ByteArray) : (x.toList == y.toList) = decide (x = y) := by
  rw [Bool.eq_iff_iff, beq_iff_eq, decide_eq_true_iff]
  refine ⟨fun h => ?_, fun h => by rw [h]⟩
  rw [Go.ByteArray.toList_eq, Go.ByteArray.toList_eq] at h
  cases x; cases y
  exact congrArg ByteArray.mk (Array.toList_inj.1 h)
theorem okD_take (ds : List Crd) (k : Nat) (h : okD ds = true) : okD (ds.take k) = true := by
  simp only [okD, Bool.and_eq_true, List.all_eq_true, decide_eq_true_eq] at h ⊢
  exact ⟨fun x hx => h.1 x (List.mem_of_mem_take hx), h.2.sublist ((List.take_sublist k ds).map _)⟩
theorem okD_next (ds : List Crd) (k : Nat) (hk : k < ds.length) : okD (ds.take (k + 1)) = (okD (ds.take k) && (isCardB ds[k] && !hasNm (ds.take k) ds[k].nm)) := by
  rw [List.take_succ_eq_append_getElem hk, okD_snoc]
  congr 3
  unfold hasNm
  congr 1
  funext y
  exact (txt_eq _ _).symm
theorem hasNm_zero (ds : List Crd) (nm : ByteArray) : hasNm (ds.take 0) nm = false := by rw [List.take_zero]; rfl
theorem hasNm_next (ds : List Crd) (j : Nat) (nm : ByteArray) (h : j < ds.length) : hasNm (ds.take (j + 1)) nm = (hasNm (ds.take j) nm || (ds[j].nm.toList == nm.toList)) := by
  unfold hasNm; rw [List.take_succ_eq_append_getElem h, List.any_append, List.any_cons, List.any_nil, Bool.or_false]
theorem hasNm_hit (ds : List Crd) (j : Nat) (nm : ByteArray) (h : j < ds.length) (e : (ds[j].nm.toList == nm.toList) = true) : hasNm (ds.take (j + 1)) nm = true := by rw [hasNm_next ds j nm h, e, Bool.or_true]
theorem hasNm_miss (ds : List Crd) (j : Nat) (nm : ByteArray) (h : j < ds.length) (e : (ds[j].nm.toList == nm.toList) = false) : hasNm (ds.take (j + 1)) nm = hasNm (ds.take j) nm := by rw [hasNm_next ds j nm h, e, Bool.or_false]
theorem hasNm_up (ds : List Crd) (j k : Nat) (nm : ByteArray) (h : j ≤ k) (e : hasNm (ds.take j) nm = true) : hasNm (ds.take k) nm = true := by
  unfold hasNm at *
  rw [List.any_eq_true] at *
  obtain ⟨y, hy, e⟩ := e
  exact ⟨y, (List.take_sublist_take_left h).subset hy, e⟩
theorem deck_far {ds : List Crd} (h : ¬ ds.length ≤ 80) : deckB ds = false := by unfold deckB; rw [decide_eq_false h]; rfl
theorem deck_near {ds : List Crd} (h : ds.length ≤ 80) : deckB ds = okD (ds.take ds.length) := by unfold deckB; rw [decide_eq_true h, List.take_length]; rfl
theorem deck_miss {ds : List Crd} {k : Nat} (hk : k < ds.length) (h : okD (ds.take (k + 1)) = false) : deckB ds = false := by
  cases e : deckB ds with
  | false => rfl
  | true =>
    unfold deckB at e
    rw [Bool.and_eq_true] at e
    rw [okD_take ds (k + 1) e.2] at h
    cases h
set_option maxHeartbeats 400000 in
theorem impl_isDeck1 (y : Crd) (nm : ByteArray) (bx : Nat) (w : World) (hx : w.cell? ⟨bx, 0, none⟩ = some (.string nm)) (hlt : bx < w.heap.size) :
    Calls Tryz.prog 96 #[.agg #[.string y.nm, .int .u64 (lo y.m), .int .u64 (hi y.m)], .pointer (some ⟨bx, 0, none⟩)] w fun e w' => e = .returned (.bool (y.nm.toList == nm.toList)) ∧ Ext w w' := by
  cases h : (y.nm.toList == nm.toList)
  all_goals
    go_enter Tryz.func96, Tryz.ntmps96
    go_wp2
    go_ret
    exact ⟨by first | rfl | simp [h], by ((repeat (first | with_reducible exact Ext.refl _ | with_reducible exact hw | with_reducible exact hb9 | with_reducible exact hb8 | with_reducible exact hb7 | with_reducible exact hb6 | with_reducible exact hb5 | with_reducible exact hb4 | with_reducible exact hb3 | with_reducible exact hb2 | with_reducible exact hb1 | with_reducible refine Ext.alloc ?_ _ | with_reducible refine Ext.drew ?_ | ((with_reducible refine Ext.set ?_ ?_ _); focus (dsimp only; omega)) | with_reducible refine Ext.trans ?_ hb9 | with_reducible refine Ext.trans ?_ hb8 | with_reducible refine Ext.trans ?_ hb7 | with_reducible refine Ext.trans ?_ hb6 | with_reducible refine Ext.trans ?_ hb5 | with_reducible refine Ext.trans ?_ hb4 | with_reducible refine Ext.trans ?_ hb3 | with_reducible refine Ext.trans ?_ hb2 | with_reducible refine Ext.trans ?_ hb1 | with_reducible refine Ext.trans ?_ hw)))⟩
set_option maxHeartbeats 400000 in
theorem slices_IndexFunc_sameCrd (xs : List Crd) (A : Option Addr) (n cap : Nat) (w : World) (hnx : n = xs.length) (hR : Rd encCrd w A xs) (hn : n ≤ 1048576) (nm : ByteArray) (bx : Nat) (hx : w.cell? ⟨bx, 0, none⟩ = some (.string nm)) (hbx : bx < w.heap.size) :
    Calls Tryz.prog 120 #[.slice A n cap, .func (.func 96) #[] #[.pointer (some ⟨bx, 0, none⟩)]] w fun e w' => e = .returned (.int .i64 (fidx (fun y : Crd => y.nm.toList == nm.toList) xs)) ∧ Ext w w' := by
  subst hnx
  go_enter Tryz.func120, Tryz.ntmps120
  go_wp2
  go_loopg [8] xs.length (fun g i wr => ∃ k : Nat, g = xs.length - k ∧ k ≤ xs.length ∧ i = .int .i64 k ∧ Ext w wr ∧ (xs.take k).any (fun y : Crd => y.nm.toList == nm.toList) = false)
  case atStart => exact ⟨0, by omega, by omega, rfl, Ext.refl _, by rw [List.take_zero]; rfl⟩
  case round =>
    obtain ⟨k, hg, hk, rfl, hw, hQ⟩ := hrel
    by_cases hkl : k < xs.length
    · obtain ⟨b, off, hA, hlt, _⟩ := hR k hkl
      subst hA
      obtain ⟨m0, m1, m2, m3⟩ := (hR.ext hw).crd k hkl
      have hs := any_take (fun y : Crd => y.nm.toList == nm.toList) xs k hkl
      rw [hQ, Bool.false_or] at hs
      cases hq : (fun y : Crd => y.nm.toList == nm.toList) xs[k] with
      | true =>
        have hM := fidx_hit (fun y : Crd => y.nm.toList == nm.toList) xs k hkl hq hQ
        try dsimp only at hq
        clear hs hQ
        go_wp2_with fail
        refine Calls.mono (impl_isDeck1 xs[k] nm bx _ (hw.cell hx) (Nat.lt_of_lt_of_le hbx hw.size)) ?_
        rintro e w1 ⟨rfl, hb1⟩
        simp only [hq]
        go_wp2
        go_ret
        exact ⟨by rw [hM]; rfl, by ((repeat (first | with_reducible exact Ext.refl _ | with_reducible exact hw | with_reducible exact hb9 | with_reducible exact hb8 | with_reducible exact hb7 | with_reducible exact hb6 | with_reducible exact hb5 | with_reducible exact hb4 | with_reducible exact hb3 | with_reducible exact hb2 | with_reducible exact hb1 | with_reducible refine Ext.alloc ?_ _ | with_reducible refine Ext.drew ?_ | ((with_reducible refine Ext.set ?_ ?_ _); focus (dsimp only; omega)) | with_reducible refine Ext.trans ?_ hb9 | with_reducible refine Ext.trans ?_ hb8 | with_reducible refine Ext.trans ?_ hb7 | with_reducible refine Ext.trans ?_ hb6 | with_reducible refine Ext.trans ?_ hb5 | with_reducible refine Ext.trans ?_ hb4 | with_reducible refine Ext.trans ?_ hb3 | with_reducible refine Ext.trans ?_ hb2 | with_reducible refine Ext.trans ?_ hb1 | with_reducible refine Ext.trans ?_ hw)))⟩
      | false =>
        have hs2 := hd (hs.trans hq)
        try dsimp only at hq
        clear hs hQ
        go_wp2_with fail
        refine Calls.mono (impl_isDeck1 xs[k] nm bx _ (hw.cell hx) (Nat.lt_of_lt_of_le hbx hw.size)) ?_
        rintro e w1 ⟨rfl, hb1⟩
        simp only [hq]
        go_wp2
        go_roundg (xs.length - (k + 1))
        case rel => exact ⟨k + 1, rfl, hkl, rfl, by ((repeat (first | with_reducible exact Ext.refl _ | with_reducible exact hw | with_reducible exact hb9 | with_reducible exact hb8 | with_reducible exact hb7 | with_reducible exact hb6 | with_reducible exact hb5 | with_reducible exact hb4 | with_reducible exact hb3 | with_reducible exact hb2 | with_reducible exact hb1 | with_reducible refine Ext.alloc ?_ _ | with_reducible refine Ext.drew ?_ | ((with_reducible refine Ext.set ?_ ?_ _); focus (dsimp only; omega)) | with_reducible refine Ext.trans ?_ hb9 | with_reducible refine Ext.trans ?_ hb8 | with_reducible refine Ext.trans ?_ hb7 | with_reducible refine Ext.trans ?_ hb6 | with_reducible refine Ext.trans ?_ hb5 | with_reducible refine Ext.trans ?_ hb4 | with_reducible refine Ext.trans ?_ hb3 | with_reducible refine Ext.trans ?_ hb2 | with_reducible refine Ext.trans ?_ hb1 | with_reducible refine Ext.trans ?_ hw))), hs2.out⟩
        case measure => omega
    · obtain rfl : k = xs.length := by omega
      rw [List.take_length] at hQ
      have hM := fidx_none (fun y : Crd => y.nm.toList == nm.toList) xs hQ
      go_wp2
      go_ret
      exact ⟨by rw [hM]; rfl, hw⟩

theorem hasNm_fidx (xs : List Crd) (nm : ByteArray) : hasNm xs nm = decide (fidx (fun y : Crd => y.nm.toList == nm.toList) xs ≥ 0) := by
  rw [Bool.eq_iff_iff, decide_eq_true_iff]
  exact (fidx_ge _ xs).symm
set_option maxHeartbeats 400000 in
theorem slices_ContainsFunc_sameCrd (xs : List Crd) (A : Option Addr) (n cap : Nat) (w : World) (hnx : n = xs.length) (hR : Rd encCrd w A xs) (hn : n ≤ 1048576) (nm : ByteArray) (bx : Nat) (hx : w.cell? ⟨bx, 0, none⟩ = some (.string nm)) (hbx : bx < w.heap.size) :
    Calls Tryz.prog 95 #[.slice A n cap, .func (.func 96) #[] #[.pointer (some ⟨bx, 0, none⟩)]] w fun e w' => e = .returned (.bool (hasNm xs nm)) ∧ Ext w w' := by
  subst hnx
  have hI := slices_IndexFunc_sameCrd xs A _ cap w rfl hR hn nm bx hx hbx
  have hm := hasNm_fidx xs nm
  generalize fidx (fun y : Crd => y.nm.toList == nm.toList) xs = q at hm hI
  rw [hm]
  clear hm
  go_enter Tryz.func95, Tryz.ntmps95
  go_wp2_with fail
  refine Calls.mono (hI) ?_
  rintro e w1 ⟨rfl, hb1⟩
  go_wp2
  go_ret
  exact ⟨rfl, by ((repeat (first | with_reducible exact Ext.refl _ | with_reducible exact hw | with_reducible exact hb9 | with_reducible exact hb8 | with_reducible exact hb7 | with_reducible exact hb6 | with_reducible exact hb5 | with_reducible exact hb4 | with_reducible exact hb3 | with_reducible exact hb2 | with_reducible exact hb1 | with_reducible refine Ext.alloc ?_ _ | with_reducible refine Ext.drew ?_ | ((with_reducible refine Ext.set ?_ ?_ _); focus (dsimp only; omega)) | with_reducible refine Ext.trans ?_ hb9 | with_reducible refine Ext.trans ?_ hb8 | with_reducible refine Ext.trans ?_ hb7 | with_reducible refine Ext.trans ?_ hb6 | with_reducible refine Ext.trans ?_ hb5 | with_reducible refine Ext.trans ?_ hb4 | with_reducible refine Ext.trans ?_ hb3 | with_reducible refine Ext.trans ?_ hb2 | with_reducible refine Ext.trans ?_ hb1 | with_reducible refine Ext.trans ?_ hw)))⟩
set_option maxHeartbeats 2000000 in
theorem impl_isDeck (ds : List Crd) (A : Option Addr) (cap : Nat) (w : World) (hR : Rd encCrd w A ds) (hcap : ds.length ≤ cap) (hn : ds.length ≤ 1048576) (hok : ∀ c ∈ ds, CrdIn c) :
    Calls Tryz.prog 53 #[.slice A ds.length cap] w fun e w' => e = .returned (.bool (deckB ds)) ∧ Ext w w' := by
  by_cases h80 : ds.length ≤ 80
  · have hv := hd (deck_near h80)
    have hnx := fun k h => okD_next ds k h
    have hmi := fun k h => deck_miss (ds := ds) (k := k) h
    have hQ0 : okD (ds.take 0) = true := by rw [List.take_zero]; exact okD_nil
    go_enter Tryz.func53, Tryz.ntmps53
    go_wp2
    go_loopg [10] ds.length (fun g i wr => ∃ k : Nat, g = ds.length - k ∧ k ≤ ds.length ∧ i = .int .i64 k ∧ Ext w wr ∧ Hd (okD (ds.take k) = true))
    case atStart => exact ⟨0, by omega, by omega, rfl, Ext.refl _, hd hQ0⟩
    case round =>
      obtain ⟨k, hg, hk, rfl, hw, hQ⟩ := hrel
      by_cases hkl : k < ds.length
      · obtain ⟨b, off, hA, hlt, _⟩ := hR k hkl
        subst hA
        have hRr := hR.ext hw
        obtain ⟨m0, m1, m2, m3⟩ := hRr.crd k hkl
        have hic := impl_isCard ds[k] (hok _ (List.getElem_mem hkl))
        have hnx := hnx k hkl
        rw [hQ.out, Bool.true_and] at hnx
        have hmi := hmi k hkl
        have hco := fun (W : World) (hE : Ext wr W) => slices_ContainsFunc_sameCrd (ds.take k) (some ⟨b, off, none⟩) k cap W (by rw [List.length_take]; omega) ((hRr.ext hE).take k) (by omega) ds[k].nm wr.heap.size
        have lw : wr.heap.size < wr.heap.size + 1 := Nat.lt_succ_self _
        generalize hasNm (ds.take k) ds[k].nm = hh at hnx hco
        generalize isCardB ds[k] = hc at hnx hic
        generalize ds[k] = c at m0 m1 m2 hic hco
        cases hc with
        | false =>
          have hv2 := hd (hmi hnx)
          clear hnx hmi
          go_wp2_with fail
          refine Calls.mono (hic _) ?_
          rintro e w2 ⟨rfl, hb2⟩
          go_wp2
          go_ret
          exact ⟨by rw [hv2.out]; rfl, (hw.alloc _).trans hb2⟩
        | true =>
          have hbx : BoxAt (wr.alloc (.cells #[.string c.nm, .int .u64 (lo c.m), .int .u64 (hi c.m)] 59)) wr.heap.size #[.string c.nm, .int .u64 (lo c.m), .int .u64 (hi c.m)] 59 := BoxAt.new' rfl
          go_wp2_with fail
          refine Calls.mono (hic _) ?_
          rintro e w2 ⟨rfl, hb2⟩
          have hbx := hbx.ext hb2
          have hE2 := ((Ext.refl wr).alloc _).trans hb2
          have hco := hco w2 hE2 (hbx.cell 0) hbx.lt
          have hkk : (0 : Int) ≤ k ∧ (k : Int) ≤ cap := ⟨by omega, by omega⟩
          cases hh with
          | true =>
            have hv2 := hd (hmi hnx)
            clear hnx hmi
            go_wp2_with fail
            refine Calls.mono hco ?_
            rintro e w3 ⟨rfl, hb3⟩
            go_wp2
            go_ret
            exact ⟨by rw [hv2.out]; rfl, (hw.trans hE2).trans hb3⟩
          | false =>
            have hQ2 := hd hnx
            clear hnx hmi
            go_wp2_with fail
            refine Calls.mono hco ?_
            rintro e w3 ⟨rfl, hb3⟩
            go_wp2
            go_roundg (ds.length - (k + 1))
            case rel => exact ⟨k + 1, rfl, hkl, by simp, (hw.trans hE2).trans hb3, hQ2⟩
            case measure => omega
      · obtain rfl : k = ds.length := by omega
        go_wp2
        go_ret
        exact ⟨by rw [hv.out, hQ.out]; rfl, hw⟩
  · have hv := hd (deck_far h80)
    go_enter Tryz.func53, Tryz.ntmps53
    go_wp2
    go_ret
    exact ⟨by rw [hv.out]; rfl, Ext.refl _⟩
set_option maxHeartbeats 2000000 in
theorem spec_l02Ok (ds : List Crd) (A : Option Addr) (cap : Nat) (w : World) (hR : Rd encCrd w A ds) (hn : ds.length ≤ 1048576) (hok : ∀ c ∈ ds, CrdIn c) :
    Calls Tryz.prog 55 #[.slice A ds.length cap] w fun e w' => e = .returned (.bool (deckB ds)) ∧ Ext w w' := by
  have hx := @ExtOf.cell
  by_cases h80 : ds.length ≤ 80
  · have hv := hd (deck_near h80)
    have hnx := fun k h => okD_next ds k h
    have hmi := fun k h => deck_miss (ds := ds) (k := k) h
    have hQ0 : okD (ds.take 0) = true := by rw [List.take_zero]; exact okD_nil
    have hz := fun nm => hasNm_zero ds nm
    have hh1 := fun j nm h e => hasNm_hit ds j nm h e
    have hh2 := fun j nm h e => hasNm_miss ds j nm h e
    have hup := fun j k nm (h : j ≤ k) (e : hasNm (ds.take j) nm = true) => hasNm_up ds j k nm h e
    go_enter Tryz.func55, Tryz.ntmps55
    go_wp2
    go_loopg [3] ds.length (fun g i wr => ∃ k : Nat, g = ds.length - k ∧ k ≤ ds.length ∧ i = .int .i64 k ∧ Ext w wr ∧ Hd (okD (ds.take k) = true))
    case atStart => exact ⟨0, by omega, by omega, rfl, Ext.refl _, hd hQ0⟩
    case round =>
      obtain ⟨k, hg, hk, rfl, hw, hQ⟩ := hrel
      obtain ⟨wo, hwo⟩ : ∃ x, x = wr := ⟨_, rfl⟩
      subst hwo
      by_cases hkl : k < ds.length
      · obtain ⟨b, off, hA, hlt, _⟩ := hR k hkl
        subst hA
        have hRr := hR.ext hw
        obtain ⟨m0, m1, m2, m3⟩ := hRr.crd k hkl
        have hic := spec_l01Ok ds[k] (hok _ (List.getElem_mem hkl)) b (off + k * 3) wo m3 m0 m1 m2
        have hnx := hnx k hkl
        rw [hQ.out, Bool.true_and] at hnx
        have hmi := hmi k hkl
        have hk0 : (0 : Int) ≤ k ∧ (k : Int) < ds.length := ⟨by omega, by omega⟩
        generalize hcc : isCardB ds[k] = hc at hnx hic
        cases hc with
        | false =>
          have hv2 := hd (hmi hnx)
          clear hnx hmi hh1 hh2 hup hz
          go_wp2_with fail
          refine Calls.mono hic ?_
          rintro e w2 ⟨rfl, hb2⟩
          go_wp2
          go_ret
          exact ⟨by rw [hv2.out]; rfl, hw.trans hb2⟩
        | true =>
          go_wp2_with fail
          refine Calls.mono hic ?_
          rintro e w2 ⟨rfl, hb2⟩
          have hup := fun j (h : j ≤ k) => hup j k ds[k].nm h
          have hw2 := hw.trans hb2
          have hz := hd (hz ds[k].nm)
          clear m0 m1 m2 m3 hic hb2 hcc
          go_wp2
          go_loopg [4] k (fun g i wr => ∃ j : Nat, g = k - j ∧ j ≤ k ∧ i = .int .i64 j ∧ Ext w2 wr ∧ Hd (hasNm (ds.take j) ds[k].nm = false))
          case atStart => exact ⟨0, by omega, by omega, rfl, Ext.refl _, hz⟩
          case round =>
            obtain ⟨j, hg2, hj, rfl, hE, hN⟩ := hrel
            have hR2 := hR.ext (hw2.trans hE)
            by_cases hjk : j < k
            · obtain ⟨m0, m1, m2, m3⟩ := hR2.crd k hkl
              obtain ⟨n0, n1, n2, n3⟩ := hR2.crd j (by omega)
              have hh1 := hh1 j ds[k].nm (by omega)
              have hh2 := hh2 j ds[k].nm (by omega)
              have hup := hup (j + 1) (by omega)
              have hjl : (j : Int) < ds.length := by omega
              rw [hN.out] at hh2
              generalize ds[j]'(by omega) = y at n0 n1 n2 hh1 hh2
              generalize hck : ds[k] = c at m0 m1 m2 hh1 hh2 hup hnx hN
              have hck := hd hck
              cases he : (y.nm.toList == c.nm.toList) with
              | true =>
                rw [hup (hh1 he)] at hnx
                have hv2 := hd (hmi hnx)
                clear hnx hmi hh1 hh2 hup hz
                go_wp2
                refine wp_region_ext (by kernel_rfl) (by kernel_rfl) ?_
                repeat (first | go_big_quiet_step (fail) | quiet_step (fail))
                refine wpQuiet_nil ?_
                intro w7 hq7
                have hb7 := ext_of_class hq7
                clear hq7
                obtain ⟨hc7, hf7, hz7⟩ := bcell3 hb7
                try simp at hz7
                go_wp2
                go_ret
                exact ⟨by rw [hv2.out]; rfl, (hw2.trans hE).trans hb7⟩
              | false =>
                have hN2 := hd (hh2 he)
                clear hnx hmi hh1 hh2 hup hz
                go_wp2
                refine wp_region_ext (by kernel_rfl) (by kernel_rfl) ?_
                repeat (first | go_big_quiet_step (fail) | quiet_step (fail))
                refine wpQuiet_nil ?_
                intro w7 hq7
                have hb7 := ext_of_class hq7
                clear hq7
                obtain ⟨hc7, hf7, hz7⟩ := bcell3 hb7
                try simp at hz7
                go_wp2
                go_roundg (k - (j + 1))
                case rel => exact ⟨j + 1, rfl, hjk, by simp, hE.trans hb7, by rw [hck.out]; exact hN2⟩
                case measure => omega
            · obtain rfl : j = k := by omega
              rw [hN.out] at hnx
              have hQ2 := hd hnx
              clear hnx hmi hh1 hh2 hup hz
              go_wp2
              go_roundg (ds.length - (j + 1))
              case rel => exact ⟨j + 1, rfl, hkl, by simp, hw2.trans hE, hQ2⟩
              case measure => omega
      · obtain rfl : k = ds.length := by omega
        go_wp2
        go_ret
        exact ⟨by rw [hv.out, hQ.out]; rfl, hw⟩
  · have hv := hd (deck_far h80)
    go_enter Tryz.func55, Tryz.ntmps55
    go_wp2
    go_ret
    exact ⟨by rw [hv.out]; rfl, Ext.refl _⟩
end Go.Proofs.YtciepjdacmjhlaaGreatDoor
set_option linter.unusedVariables false
set_option linter.unusedSimpArgs false
set_option maxRecDepth 100000
namespace Go.Proofs.YtciepjdacmjhlaaGreatDoor
open Go.RowKit
structure Qry where
  al : Mask
  no : Mask
/-- Is a query valid? -/
def qryB (q : Qry) : Bool := isMaskB q.al && (isMaskB q.no && mzero (mmeet q.al q.no))
/-- Does a query drop a card with such notches? -/
def drpB (q : Qry) (m : Mask) : Bool := mzero (mless q.al m) && mzero (mmeet q.no m)
/-- The places below n at which p holds. -/
def idxTo (p : Nat → Bool) : Nat → List Int
  | 0 => []
  | k + 1 => idxTo p k ++ if p k = true then [(k : Int)] else []
theorem idxTo_zero (p : Nat → Bool) : idxTo p 0 = [] := rfl
theorem idxTo_hit (p : Nat → Bool) (k : Nat) (h : p k = true) : idxTo p (k + 1) = idxTo p k ++ [(k : Int)] := by rw [idxTo, if_pos h]
theorem idxTo_miss (p : Nat → Bool) (k : Nat) (h : p k = false) : idxTo p (k + 1) = idxTo p k := by rw [idxTo, if_neg (by rw [h]; decide), List.append_nil]
theorem idxTo_mem (p : Nat → Bool) (n : Nat) (v : Int) : v ∈ idxTo p n ↔ ∃ i, i < n ∧ v = (i : Int) ∧ p i = true := by
  induction n with
  | zero => rw [idxTo_zero]; exact ⟨fun h => (by simp at h), fun ⟨i, h, _⟩ => absurd h (by omega)⟩
  | succ n ih =>
    rw [idxTo, List.mem_append, ih]
    constructor
    · rintro (⟨i, h1, h2, h3⟩ | h)
      · exact ⟨i, by omega, h2, h3⟩
      · by_cases e : p n = true
        · rw [if_pos e] at h; exact ⟨n, by omega, by simpa using h, e⟩
        · rw [if_neg e] at h; simp at h
    · rintro ⟨i, h1, h2, h3⟩
      by_cases e : i = n
      · subst e; rw [if_pos h3]; exact .inr (by simp [h2])
      · exact .inl ⟨i, by omega, h2, h3⟩
theorem idxTo_len (p : Nat → Bool) (n : Nat) : (idxTo p n).length ≤ n := by
  induction n with
  | zero => simp [idxTo]
  | succ n ih =>
    rw [idxTo, List.length_append]
    split
    · simp; omega
    · simp; omega
/-- What one of several queries drops. -/
def ansL (ds : List Crd) (qs : List Qry) : List Int := idxTo (fun i => qs.any fun q => drpB q (ds.getD i Crd.z).m) ds.length
theorem qryB_iff (q : Qry) : qryB q = true ↔ isMaskB q.al = true ∧ isMaskB q.no = true ∧ ∀ i : Nat, i < 128 → mhas q.al i = true → mhas q.no i = false := by
  unfold qryB
  rw [Bool.and_eq_true, Bool.and_eq_true, mzero_iff]
  refine and_congr_right fun _ => and_congr_right fun _ => forall_congr' fun i => forall_congr' fun hi => ?_
  rw [mhas_and]
  cases mhas q.al i <;> cases mhas q.no i <;> simp
theorem drpB_iff (q : Qry) (m : Mask) : drpB q m = true ↔ ∀ i : Nat, i < 128 → (mhas q.al i = true → mhas m i = true) ∧ (mhas q.no i = true → mhas m i = false) := by
  unfold drpB
  rw [Bool.and_eq_true, mzero_iff, mzero_iff]
  constructor
  · rintro ⟨h1, h2⟩ i hi
    have g1 := h1 i hi
    have g2 := h2 i hi
    rw [mhas_less _ _ _ hi] at g1
    rw [mhas_and] at g2
    revert g1 g2
    cases mhas q.al i <;> cases mhas q.no i <;> cases mhas m i <;> simp
  · intro h
    constructor
    · intro i hi
      have := h i hi
      rw [mhas_less _ _ _ hi]
      revert this
      cases mhas q.al i <;> cases mhas m i <;> simp
    · intro i hi
      have := h i hi
      rw [mhas_and]
      revert this
      cases mhas q.no i <;> cases mhas m i <;> simp
/-- The query for a value. -/
def qryFor (f : Fld) (v : Int) : Qry := ⟨codeF f v, mless (partF f) (codeF f v)⟩
theorem qryFor_ok {f : Fld} (hf : fldB f = true) (hL : CodeLaw f) {v : Int} (v0 : 0 ≤ v) (v1 : v ≤ mostF f) : qryB (qryFor f v) = true := by
  rw [qryB_iff]
  refine ⟨code_mask hf hL v0 v1, sm_less (part_mask hf), fun i hi h => ?_⟩
  show mhas (mless (partF f) (codeF f v)) i = false
  rw [mhas_less _ _ _ hi, show mhas (codeF f v) i = true from h]
  simp
theorem qryFor_width {f : Fld} (hf : fldB f = true) (hL : CodeLaw f) {v : Int} (v0 : 0 ≤ v) (v1 : v ≤ mostF f) : mcount (qryFor f v).al + mcount (qryFor f v).no = manyF f.kd f.sz := by
  have h := mcount_split (partF f) (codeF f v)
  rw [mmeet_comm, code_meet hL v0 v1, part_count hf] at h
  exact h.symm
theorem qryFor_drops {f : Fld} (hL : CodeLaw f) {v : Int} (v0 : 0 ≤ v) (v1 : v ≤ mostF f) (m : Mask) : drpB (qryFor f v) m = true ↔ valueF f m = (v, 0) := by
  have key : drpB (qryFor f v) m = true ↔ mmeet m (partF f) = codeF f v := by
    rw [drpB_iff]
    constructor
    · intro h
      refine mask_ext fun i hi => ?_
      obtain ⟨h1, h2⟩ := h i hi
      have hp := hL.part v v0 v1 i
      have h2 : mhas (mless (partF f) (codeF f v)) i = true → mhas m i = false := h2
      have h1 : mhas (codeF f v) i = true → mhas m i = true := h1
      rw [mhas_less _ _ _ hi] at h2
      rw [mhas_and]
      revert h1 h2 hp
      cases mhas (codeF f v) i <;> cases mhas m i <;> cases mhas (partF f) i <;> simp
    · intro h i hi
      have e := congrArg (fun x => mhas x i) h
      have hp := hL.part v v0 v1 i
      simp only [mhas_and] at e
      show (mhas (codeF f v) i = true → mhas m i = true) ∧ (mhas (mless (partF f) (codeF f v)) i = true → mhas m i = false)
      rw [mhas_less _ _ _ hi]
      revert e hp
      cases mhas (codeF f v) i <;> cases mhas m i <;> cases mhas (partF f) i <;> simp
  rw [key]
  exact ⟨value_code hL v0 v1, fun h => (value_back h).2.2.symm⟩
def qryBoth (q r : Qry) : Qry := ⟨mjoin q.al r.al, mjoin q.no r.no⟩
theorem qryBoth_drops (q r : Qry) (m : Mask) : drpB (qryBoth q r) m = (drpB q m && drpB r m) := by
  rw [Bool.eq_iff_iff, Bool.and_eq_true, drpB_iff, drpB_iff, drpB_iff]
  constructor
  · intro h
    constructor
    · intro i hi
      have := h i hi
      revert this
      show (mhas (mjoin q.al r.al) i = true → _) ∧ (mhas (mjoin q.no r.no) i = true → _) → _
      rw [mhas_or, mhas_or]
      cases mhas q.al i <;> cases mhas q.no i <;> cases mhas m i <;> simp
    · intro i hi
      have := h i hi
      revert this
      show (mhas (mjoin q.al r.al) i = true → _) ∧ (mhas (mjoin q.no r.no) i = true → _) → _
      rw [mhas_or, mhas_or]
      cases mhas r.al i <;> cases mhas r.no i <;> cases mhas m i <;> simp
  · rintro ⟨h1, h2⟩ i hi
    have g1 := h1 i hi
    have g2 := h2 i hi
    revert g1 g2
    show _ → _ → (mhas (mjoin q.al r.al) i = true → _) ∧ (mhas (mjoin q.no r.no) i = true → _)
    rw [mhas_or, mhas_or]
    cases mhas q.al i <;> cases mhas q.no i <;> cases mhas r.al i <;> cases mhas r.no i <;> simp
theorem qryBoth_none {q r : Qry} (hq : qryB q = true) (hr : qryB r = true) (h : qryB (qryBoth q r) = false) (m : Mask) : (drpB q m && drpB r m) = false := by
  rw [← qryBoth_drops]
  cases hd' : drpB (qryBoth q r) m with
  | false => rfl
  | true =>
    exfalso
    rw [drpB_iff] at hd'
    obtain ⟨q1, q2, _⟩ := (qryB_iff q).1 hq
    obtain ⟨r1, r2, _⟩ := (qryB_iff r).1 hr
    have : qryB (qryBoth q r) = true := (qryB_iff _).2 ⟨sm_joinV q1 r1, sm_joinV q2 r2, fun i hi h3 => by
      obtain ⟨g1, g2⟩ := hd' i hi
      cases h4 : mhas (qryBoth q r).no i with
      | false => rfl
      | true => have := g1 h3; have := g2 h4; simp_all⟩
    rw [this] at h
    cases h
theorem ans_has (ds : List Crd) (qs : List Qry) (i : Nat) (hi : i < ds.length) : (ansL ds qs).contains (i : Int) = qs.any fun q => drpB q ds[i].m := by
  unfold ansL
  rw [Bool.eq_iff_iff, List.contains_iff_mem, idxTo_mem]
  have e : ds.getD i Crd.z = ds[i] := by rw [List.getD, List.getElem?_eq_getElem hi]; rfl
  constructor
  · rintro ⟨k, h1, h2, h3⟩
    obtain rfl : i = k := by omega
    rw [e] at h3
    exact h3
  · intro h
    exact ⟨i, hi, rfl, by rw [e]; exact h⟩
end Go.Proofs.YtciepjdacmjhlaaGreatDoor
set_option linter.unusedVariables false
set_option linter.unusedSimpArgs false
set_option maxRecDepth 100000
namespace Go.Proofs.YtciepjdacmjhlaaGreatDoor
open Go.RowKit
theorem sm_zeroD : isMaskB 0 = true := by decide
theorem sm_bitD {h : Int} (h0 : 0 ≤ h) (h1 : h < 96) : isMaskB (mbit h) = true := by
  unfold isMaskB
  rw [decide_eq_true_eq, mbit_toNat h h0 (by omega)]
  exact Nat.pow_lt_pow_right (by decide) (by omega : h.toNat < 96)
theorem nms_nodup : nmsL.Nodup := by decide +kernel
/-- A deck as it is drawn. -/
structure DrawnD (ds : List Crd) : Prop where
  masks : ∀ c ∈ ds, isMaskB c.m = true
  len : ds.length ≤ 8
  names : ds.map Crd.nm = nmsL.take ds.length
theorem DrawnD.good {ds : List Crd} (h : DrawnD ds) : ∀ c ∈ ds, isCardB c = true := by
  intro c hc
  unfold isCardB
  rw [h.masks c hc, Bool.and_true]
  have hm : c.nm ∈ ds.map Crd.nm := List.mem_map_of_mem hc
  rw [h.names] at hm
  exact List.all_eq_true.1 nms_good _ (List.mem_of_mem_take hm)
theorem DrawnD.deck {ds : List Crd} (h : DrawnD ds) : deckB ds = true := by
  have hl := h.len
  have hn : (ds.map Crd.nm).Nodup := by rw [h.names]; exact nms_nodup.sublist (List.take_sublist _ _)
  unfold deckB okD
  rw [decide_eq_true (by omega), List.all_eq_true.2 h.good, decide_eq_true hn]
  rfl
theorem DrawnD.small {ds : List Crd} (h : DrawnD ds) : ∀ c ∈ ds, c.nm.size ≤ 9223372036854775807 := fun c hc => by
  have := h.good c hc
  unfold isCardB at this
  rw [Bool.and_eq_true] at this
  exact nm_small this.1
theorem DrawnD.push {ds : List Crd} (h : DrawnD ds) (hl : ds.length < 8) (m : Mask) (hm : isMaskB m = true) : DrawnD (ds ++ [⟨nmsL[ds.length]!, m⟩]) := by
  have hin : nmsL[ds.length]! = nmsL[ds.length]'(by rw [nms_len]; omega) := getElem!_pos nmsL _ _
  refine ⟨fun c hc => ?_, by rw [List.length_append, List.length_singleton]; omega, ?_⟩
  · rcases List.mem_append.1 hc with h1 | h1
    · exact h.masks c h1
    · rw [List.mem_singleton.1 h1]; exact hm
  · rw [List.map_append, h.names, List.length_append, List.length_singleton, List.take_succ_eq_append_getElem (by rw [nms_len]; omega), List.map_singleton, hin]
theorem DrawnD.nil : DrawnD [] := ⟨(fun c hc => by cases hc), (by simp), rfl⟩
theorem info_CrdK : (Tryz.prog.info? 59).map (fun i => (i.zero, i.size, i.bytes)) = some (some (.agg #[.string ⟨#[]⟩, .int .u64 0, .int .u64 0]), encCrd.sz, 32) := by kernel_rfl
theorem spec_l02Named (i : Nat) (hi12 : i < 12) (w : World) :
    Calls Tryz.prog 82 #[.int .i64 i] w fun e w' => e = .returned (.string nmsL[i]!) ∧ Ext w w' := by
  have e1 : IntKind.i64.wrap ((i : Int).tmod 12) = i := by rw [Int.tmod_eq_emod_of_nonneg (by omega)]; exact (IntWalk.i64_in _ (by omega)).trans (by omega)
  have e2 : (i : Int) % 12 = i := by omega
  have e3 : (i : Int) / 12 = 0 := by omega
  have e4 : (i : Int).tdiv 12 = 0 := by rw [Int.tdiv_eq_ediv_of_nonneg (by omega)]; omega
  have e5 : IntKind.i64.wrap (i : Int) = i := IntWalk.i64_in _ (by omega)
  have i2 : (i : Int) < 12 := by omega
  have hget := getElem!_pos nmsL i (by rw [nms_len]; omega)
  have hsn : ∀ (W : World) (b : Nat), Rd encStr W (some ⟨b, 0, none⟩) nmsL → W.cell? ⟨b, i, none⟩ = some (.string nmsL[i]!) := fun W b h => by
    have := h.str i (by rw [nms_len]; omega)
    rw [Nat.zero_add] at this
    rw [hget]; exact this
  clear hget
  generalize nmsL[i]! = nm at hsn ⊢
  go_enter Tryz.func82, Tryz.ntmps82
  go_wp2_with fail
  refine Calls.mono (spec_l01Names _) ?_
  rintro e w1 ⟨b, rfl, hN, hb0, hb1, hE1⟩
  have m0 := hsn _ _ hN
  clear hsn
  go_wp2
  go_loopg [5, 6] 0 (fun g v kv wr => g = 0 ∧ v = .string nm ∧ kv = .int .i64 0 ∧ Ext w wr)
  case atStart => exact ⟨rfl, rfl, rfl, hE1⟩
  case round =>
    obtain ⟨hg, rfl, rfl, hw⟩ := hrel
    go_wp2
    go_ret
    exact ⟨rfl, hw⟩
set_option maxHeartbeats 8000000 in
theorem spec_l02Drawn (base b n : Nat) (xs : List Fld) (L : Option Addr) (lcap : Nat) (w : World) (hS : Src w base b n) (hn : n + 300 ≤ 1099511627776) (hL : Rd encFld w L xs) (hLb : ∀ p, L = some p → p.block < b) (hx5 : xs.length ≤ 5) (hDs : DrawnS xs) :
    Calls Tryz.prog 41 #[.pointer (some ⟨b, 0, none⟩), .slice L xs.length lcap] w fun e w' => ∃ ds v, e = .returned v ∧ Ow encCrd 59 w' w.heap.size v ds ∧ DrawnD ds ∧ Src w' base b (n + 300) ∧ Win b (b + 1) w w' := by
  have lS := hS.lt
  have hbs := hS.base
  go_enter Tryz.func41, Tryz.ntmps41
  have hE1 := (Ext.refl w).alloc (.cells #[] 59)
  have hO1 : Ow encCrd 59 (w.alloc (.cells #[] 59)) w.heap.size (.slice (some ⟨w.heap.size, 0, none⟩) 0 0) [] := Ow.made0 (T := 59) (W := w) rfl (Nat.le_refl _)
  go_wp2_with fail
  refine Calls.mono (src_pick base b n 9 (by omega) _ (hS.ext hE1) (by omega)) ?_
  rintro e w2 ⟨k0, rfl, k00, k01, hS2, hW2⟩
  have hO2 := hO1.win hW2 (fun b' h => .inr (by have := (hO1.lt b' h).1; omega))
  have hL2 := (hL.ext hE1).winN hW2 (fun _ p hp => .inl (hLb p hp))
  have hw2 := (Win.of (lo := b) (hi := b + 1) hE1).trans hW2
  clear hO1 hE1 hW2 hS
  obtain ⟨k0, rfl⟩ := Int.eq_ofNat_of_zero_le k00
  go_wp2
  go_loopg [5, 6] k0 (fun g v kv wr => ∃ k : Nat, ∃ ds : List Crd, g = k ∧ kv = .int .i64 k ∧ Hd (ds.length + k = k0) ∧ DrawnD ds ∧ Ow encCrd 59 wr w.heap.size v ds ∧ Rd encFld wr L xs ∧ Src wr base b (n + 300 - 30 * k) ∧ Win b (b + 1) w wr)
  case atStart => exact ⟨k0, [], rfl, rfl, hd (by simp), DrawnD.nil, hO2, hL2, hS2.up (by omega) (by omega), hw2⟩
  case round =>
    obtain ⟨k, ds, hg, rfl, hlen, hD, hO, hLr, hSr, hw⟩ := hrel
    obtain ⟨wo, hwo⟩ : ∃ x, x = wr := ⟨_, rfl⟩
    subst hwo
    clear hS2 hO2 hL2 hw2 k00
    cases k with
    | zero =>
      go_wp2
      go_ret
      exact ⟨ds, _, rfl, hO, hD, hSr, hw⟩
    | succ k =>
      have hlen2 := hlen.out
      have hd8 : ds.length < 8 := by omega
      have i1 : ((0 : Int) < (k + 1 : Nat)) = True := eq_true (by omega)
      rw [show ((k + 1 : Nat) : Int) = (k : Int) + 1 from rfl] at *
      have hpush := fun m hm => hD.push hd8 m hm
      have hnmd := fun W => spec_l02Named ds.length (by omega) W
      generalize nmsL[ds.length]! = nm at hpush hnmd
      have lw := hw.size
      obtain ⟨A, cap, rfl, hle, hR⟩ := hO.slice
      clear hlen2 hle hR
      go_wp2_with fail
      refine Calls.mono (hnmd wo) ?_
      rintro e w3 ⟨rfl, hb3⟩
      clear hnmd
      have kE := hb3.alloc (.cells #[.string nm, .int .u64 0, .int .u64 0] 59)
      have hX3 : BoxAt (w3.alloc (.cells #[.string nm, .int .u64 0, .int .u64 0] 59)) w3.heap.size #[.string nm, .int .u64 (lo 0), .int .u64 (hi 0)] 59 := BoxAt.new' rfl
      have hO3 := hO.ext kE
      have hL3 := hLr.ext kE
      have hS3 := hSr.ext kE
      have hw3 := hw.ext kE
      have l3 := hb3.size
      have hob := fun b' h => (hO.lt b' h)
      clear hO hLr hSr hw hb3 kE
      generalize hbx : w3.heap.size = bx at hX3 l3
      have hne : (Value.slice A ds.length cap).ownBlock ≠ some bx := fun h => by have := (hob _ h).2; omega
      go_wp2
      clear hbx
      go_loopg [8] xs.length (fun g iv wi => ∃ i : Nat, ∃ m : Mask, g = xs.length - i ∧ i ≤ xs.length ∧ iv = .int .i64 i ∧ isMaskB m = true ∧ BoxAt wi bx #[.string nm, .int .u64 (lo m), .int .u64 (hi m)] 59 ∧ Ow encCrd 59 wi w.heap.size (.slice A ds.length cap) ds ∧ Rd encFld wi L xs ∧ Src wi base b (n + 300 - 30 * (k + 1) + 4 * i) ∧ Win b (b + 1) w wi)
      case atStart => exact ⟨0, 0, by omega, by omega, rfl, sm_zeroD, hX3, hO3, hL3, hS3, hw3⟩
      case round =>
        obtain ⟨i, m, hgi, hil, rfl, hm, hX, hO, hLi, hS, hw⟩ := hrel
        clear hX3 hO3 hL3 hS3 hw3
        by_cases hi5 : i < xs.length
        · obtain ⟨bL, oL, hAL, hltL, hrL⟩ := hLi i hi5
          subst hAL
          clear hrL hltL
          have hfd := hDs _ (List.getElem_mem hi5)
          have hbL : bL < b := hLb _ rfl
          have hFa := fun W (h : Rd encFld W (some ⟨bL, oL, none⟩) xs) => h.fldAt i hi5
          generalize xs[i] = f at hFa hfd
          have q1 : (i : Int) < xs.length := by omega
          go_wp2_with fail
          refine Calls.mono (src_one base b _ 8 (by omega) wr hS (by omega)) ?_
          rintro e w4 ⟨one, rfl, hSw4, hWw4⟩
          have hXw4 := hX.win hWw4 (.inr (by omega))
          have hOw4 := hO.win hWw4 (fun b' h => .inr (by have := (hob b' h).1; omega))
          have hLw4 := hLi.winN hWw4 (fun _ p hp => .inl (hLb p hp))
          have hww4 := hw.trans hWw4
          clear hX hO hLi hS hw hWw4
          cases one with
          | true =>
            go_wp2
            go_roundg (xs.length - (i + 1))
            case rel => exact ⟨i + 1, m, rfl, by omega, by first | rfl | simp, hm, hXw4, hOw4, hLw4, hSw4.up (by omega) (by omega), hww4⟩
            case measure => omega
          | false =>
            have hf := hfd.1
            have hL0 := code_law hf hfd.2
            have hmo := mostF_le f hf
            have j1 : IntKind.i64.wrap (mostF f + 1) = mostF f + 1 := IntWalk.i64_in _ (by omega)
            go_wp2
            refine wp_region_any (by kernel_rfl) ?_
            change wpAny _ _ _ _ _ _ _ (World.drew _)
            refine intro_world (fun WD hWD => ?_)
            have eD : Ext w4 WD := by rw [hWD]; exact (Ext.refl _).drew
            clear hWD
            have hXWD := hXw4.ext eD
            have hOWD := hOw4.ext eD
            have hLWD := hLw4.ext eD
            have hSWD := hSw4.ext eD
            have hwWD := hww4.ext eD
            clear hXw4 hOw4 hLw4 hSw4 hww4 eD
            refine wpAny_take (i := 0) (v := ?_) rfl (by kernel_rfl) (by kernel_rfl) (by kernel_rfl) (fun _ _ _ h => h) (Or.inl ⟨by rfl, ?_⟩) ?_
            rotate_left
            · (intro W9; go_simp; try with_reducible rfl)
            refine wpAny_take (i := 2) (v := ?_) rfl (by kernel_rfl) (by kernel_rfl) (by kernel_rfl) (fun _ _ _ h => h) (Or.inl ⟨by rfl, ?_⟩) ?_
            rotate_left
            · (intro W9; go_simp; try with_reducible rfl)
            refine wpAny_take (i := 3) (v := ?_) rfl (by kernel_rfl) (by kernel_rfl) (by kernel_rfl) (fun _ _ _ h => h) (Or.inl ⟨by rfl, ?_⟩) ?_
            rotate_left
            · (intro W9; go_simp; try with_reducible rfl)
            refine wpAny_take (i := 4) (v := ?_) rfl (by kernel_rfl) (by kernel_rfl) (by kernel_rfl) (fun _ _ _ h => h) (Or.inl ⟨by rfl, ?_⟩) ?_
            rotate_left
            · (intro W9; go_simp; try with_reducible rfl)
            refine wpAny_take (i := 5) (v := ?_) rfl (by kernel_rfl) (by kernel_rfl) (by kernel_rfl) (fun _ _ _ h => h) (Or.inl ⟨by rfl, ?_⟩) ?_
            rotate_left
            · (intro W9; go_simp; try with_reducible rfl)
            refine wpAny_take (i := 6) (v := ?_) rfl (by kernel_rfl) (by kernel_rfl) (by kernel_rfl) (fun _ _ _ h => h) (Or.inl ⟨by rfl, ?_⟩) ?_
            rotate_left
            · (intro W9; go_simp; try with_reducible rfl)
            refine wpAny_take (i := 7) (v := ?_) rfl (by kernel_rfl) (by kernel_rfl) (by kernel_rfl) (fun _ _ _ h => h) (Or.inl ⟨by rfl, ?_⟩) ?_
            rotate_left
            · (intro W9; go_simp; try with_reducible rfl)
            refine wpAny_take (i := 8) (v := ?_) rfl (by kernel_rfl) (by kernel_rfl) (by kernel_rfl) (fun _ _ _ h => h) (Or.inl ⟨by rfl, ?_⟩) ?_
            rotate_left
            · (intro W9; go_simp; try with_reducible rfl)
            apply Conv.convR (C := fun v W => 0 ≤ v ∧ v ≤ mostF f ∧ BoxAt W bx #[.string nm, .int .u64 (lo m), .int .u64 (hi m)] 59 ∧ Ow encCrd 59 W w.heap.size (.slice A ds.length cap) ds ∧ Rd encFld W (some ⟨bL, oL, none⟩) xs ∧ Src W base b (n + 300 - 30 * (k + 1) + 4 * i + 2 + 2) ∧ Win b (b + 1) w W)
            case h =>
              intro hk
              refine wpAny_ready (rs := [1, 9]) (by kernel_rfl) (by simp) ?_
              refine AllReady.cons rfl (fun K hK => ?_) (AllReady.cons rfl (fun K hK => ?_) AllReady.nil)
              · have y0 : WD.cell? ⟨bx, 0, none⟩ = some (.string nm) := hXWD.cell 0
                have y1 : WD.cell? ⟨bx, 1, none⟩ = some (.int .u64 (lo m)) := hXWD.cell 1
                have y2 : WD.cell? ⟨bx, 2, none⟩ = some (.int .u64 (hi m)) := hXWD.cell 2
                have ly := hXWD.lt
                go_simp
                refine hK _ _ ?_
                clear hK K
                clear ly y0 y1 y2
                refine wpAny_ready (rs := [9]) (by kernel_rfl) (by simp) ?_
                refine AllReady.cons rfl (fun K hK => ?_) ?_
                rotate_left
                · exact AllReady.nil
                go_simp
                go_wp2_with fail
                refine Calls.mono (spec_l01Most f hf bL (oL + i * 4) WD (hFa _ hLWD)) ?_
                rintro e w5 ⟨rfl, hbw5⟩
                have hXw5 := hXWD.ext hbw5
                have hOw5 := hOWD.ext hbw5
                have hLw5 := hLWD.ext hbw5
                have hSw5 := hSWD.ext hbw5
                have hww5 := hwWD.ext hbw5
                go_wp2_with fail
                refine wpAny_take (i := 10) (v := ?_) rfl (by kernel_rfl) (by kernel_rfl) (by kernel_rfl) (fun _ _ _ h => h) (Or.inl ⟨by rfl, ?_⟩) ?_
                rotate_left
                · (intro W9; go_simp; try with_reducible rfl)
                refine wpAny_ready (rs := [11]) (by kernel_rfl) (by simp) ?_
                refine AllReady.cons rfl (fun K hK => ?_) ?_
                rotate_left
                · exact AllReady.nil
                go_simp
                go_wp2_with fail
                refine Calls.mono (src_pick base b _ (mostF f + 1) (by omega) w5 hSw5 (by omega)) ?_
                rintro e w6 ⟨v, rfl, v0, v1, hSw6, hWw6⟩
                have hXw6 := hXw5.win hWw6 (.inr (by omega))
                have hOw6 := hOw5.win hWw6 (fun b' h => .inr (by have := (hob b' h).1; omega))
                have hLw6 := hLw5.winN hWw6 (fun _ p hp => .inl (hLb p hp))
                have hww6 := hww5.trans hWw6
                go_wp2_with fail
                refine wpAny_ready (rs := [12]) (by kernel_rfl) (by simp) ?_
                refine AllReady.cons rfl (fun K hK => ?_) ?_
                rotate_left
                · exact AllReady.nil
                go_simp
                go_wp2_with fail
                refine Calls.mono (spec_l01Code f hf v v0 (by omega) bL (oL + i * 4) w6 (hFa _ hLw6)) ?_
                rintro e w7 ⟨rfl, hbw7⟩
                have hXw7 := hXw6.ext hbw7
                have hOw7 := hOw6.ext hbw7
                have hLw7 := hLw6.ext hbw7
                have hSw7 := hSw6.ext hbw7
                have hww7 := hww6.ext hbw7
                go_wp2_with fail
                exact hk v w7 ⟨v0, by omega, hXw7, hOw7, hLw7, hSw7, hww7⟩
              · go_simp
                go_wp2_with fail
                refine Calls.mono (spec_l01Most f hf bL (oL + i * 4) WD (hFa _ hLWD)) ?_
                rintro e w5 ⟨rfl, hbw5⟩
                have hXw5 := hXWD.ext hbw5
                have hOw5 := hOWD.ext hbw5
                have hLw5 := hLWD.ext hbw5
                have hSw5 := hSWD.ext hbw5
                have hww5 := hwWD.ext hbw5
                go_wp2_with fail
                refine wpAny_take (i := 10) (v := ?_) rfl (by kernel_rfl) (by kernel_rfl) (by kernel_rfl) (fun _ _ _ h => h) (Or.inl ⟨by rfl, ?_⟩) ?_
                rotate_left
                · (intro W9; go_simp; try with_reducible rfl)
                refine wpAny_ready (rs := [1, 11]) (by kernel_rfl) (by simp) ?_
                refine AllReady.cons rfl (fun K hK => ?_) (AllReady.cons rfl (fun K hK => ?_) AllReady.nil)
                · have y0 : w5.cell? ⟨bx, 0, none⟩ = some (.string nm) := hXw5.cell 0
                  have y1 : w5.cell? ⟨bx, 1, none⟩ = some (.int .u64 (lo m)) := hXw5.cell 1
                  have y2 : w5.cell? ⟨bx, 2, none⟩ = some (.int .u64 (hi m)) := hXw5.cell 2
                  have ly := hXw5.lt
                  go_simp
                  refine hK _ _ ?_
                  clear hK K
                  clear ly y0 y1 y2
                  refine wpAny_ready (rs := [11]) (by kernel_rfl) (by simp) ?_
                  refine AllReady.cons rfl (fun K hK => ?_) ?_
                  rotate_left
                  · exact AllReady.nil
                  go_simp
                  go_wp2_with fail
                  refine Calls.mono (src_pick base b _ (mostF f + 1) (by omega) w5 hSw5 (by omega)) ?_
                  rintro e w6 ⟨v, rfl, v0, v1, hSw6, hWw6⟩
                  have hXw6 := hXw5.win hWw6 (.inr (by omega))
                  have hOw6 := hOw5.win hWw6 (fun b' h => .inr (by have := (hob b' h).1; omega))
                  have hLw6 := hLw5.winN hWw6 (fun _ p hp => .inl (hLb p hp))
                  have hww6 := hww5.trans hWw6
                  go_wp2_with fail
                  refine wpAny_ready (rs := [12]) (by kernel_rfl) (by simp) ?_
                  refine AllReady.cons rfl (fun K hK => ?_) ?_
                  rotate_left
                  · exact AllReady.nil
                  go_simp
                  go_wp2_with fail
                  refine Calls.mono (spec_l01Code f hf v v0 (by omega) bL (oL + i * 4) w6 (hFa _ hLw6)) ?_
                  rintro e w7 ⟨rfl, hbw7⟩
                  have hXw7 := hXw6.ext hbw7
                  have hOw7 := hOw6.ext hbw7
                  have hLw7 := hLw6.ext hbw7
                  have hSw7 := hSw6.ext hbw7
                  have hww7 := hww6.ext hbw7
                  go_wp2_with fail
                  exact hk v w7 ⟨v0, by omega, hXw7, hOw7, hLw7, hSw7, hww7⟩
                · go_simp
                  go_wp2_with fail
                  refine Calls.mono (src_pick base b _ (mostF f + 1) (by omega) w5 hSw5 (by omega)) ?_
                  rintro e w6 ⟨v, rfl, v0, v1, hSw6, hWw6⟩
                  have hXw6 := hXw5.win hWw6 (.inr (by omega))
                  have hOw6 := hOw5.win hWw6 (fun b' h => .inr (by have := (hob b' h).1; omega))
                  have hLw6 := hLw5.winN hWw6 (fun _ p hp => .inl (hLb p hp))
                  have hww6 := hww5.trans hWw6
                  go_wp2_with fail
                  refine wpAny_ready (rs := [1, 12]) (by kernel_rfl) (by simp) ?_
                  refine AllReady.cons rfl (fun K hK => ?_) (AllReady.cons rfl (fun K hK => ?_) AllReady.nil)
                  · have y0 : w6.cell? ⟨bx, 0, none⟩ = some (.string nm) := hXw6.cell 0
                    have y1 : w6.cell? ⟨bx, 1, none⟩ = some (.int .u64 (lo m)) := hXw6.cell 1
                    have y2 : w6.cell? ⟨bx, 2, none⟩ = some (.int .u64 (hi m)) := hXw6.cell 2
                    have ly := hXw6.lt
                    go_simp
                    refine hK _ _ ?_
                    clear hK K
                    clear ly y0 y1 y2
                    refine wpAny_ready (rs := [12]) (by kernel_rfl) (by simp) ?_
                    refine AllReady.cons rfl (fun K hK => ?_) ?_
                    rotate_left
                    · exact AllReady.nil
                    go_simp
                    go_wp2_with fail
                    refine Calls.mono (spec_l01Code f hf v v0 (by omega) bL (oL + i * 4) w6 (hFa _ hLw6)) ?_
                    rintro e w7 ⟨rfl, hbw7⟩
                    have hXw7 := hXw6.ext hbw7
                    have hOw7 := hOw6.ext hbw7
                    have hLw7 := hLw6.ext hbw7
                    have hSw7 := hSw6.ext hbw7
                    have hww7 := hww6.ext hbw7
                    go_wp2_with fail
                    exact hk v w7 ⟨v0, by omega, hXw7, hOw7, hLw7, hSw7, hww7⟩
                  · go_simp
                    go_wp2_with fail
                    refine Calls.mono (spec_l01Code f hf v v0 (by omega) bL (oL + i * 4) w6 (hFa _ hLw6)) ?_
                    rintro e w7 ⟨rfl, hbw7⟩
                    have hXw7 := hXw6.ext hbw7
                    have hOw7 := hOw6.ext hbw7
                    have hLw7 := hLw6.ext hbw7
                    have hSw7 := hSw6.ext hbw7
                    have hww7 := hww6.ext hbw7
                    go_wp2_with fail
                    have y0 : w7.cell? ⟨bx, 0, none⟩ = some (.string nm) := hXw7.cell 0
                    have y1 : w7.cell? ⟨bx, 1, none⟩ = some (.int .u64 (lo m)) := hXw7.cell 1
                    have y2 : w7.cell? ⟨bx, 2, none⟩ = some (.int .u64 (hi m)) := hXw7.cell 2
                    have ly := hXw7.lt
                    refine wpAny_ready (rs := [1]) (by kernel_rfl) (by simp) ?_
                    refine AllReady.cons rfl (fun K hK => ?_) ?_
                    rotate_left
                    · exact AllReady.nil
                    go_simp
                    refine hK _ _ ?_
                    clear hK K
                    clear ly y0 y1 y2
                    exact hk v w7 ⟨v0, by omega, hXw7, hOw7, hLw7, hSw7, hww7⟩
            rintro v W ⟨v0, v1, hX5, hO5, hL5, hS5, hw5⟩
            have hcm := code_mask hf hL0 v0 v1
            have hjn := fun W => spec_l01Join m (codeF f v) W
            have hm2 := sm_joinV hm hcm
            generalize codeF f v = cv at hjn hm2 ⊢
            generalize mjoin m cv = m2 at hjn hm2
            clear hcm j1
            refine wpAny_ready (rs := [13]) (by kernel_rfl) (by simp) ?_
            refine AllReady.cons rfl (fun K hK => ?_) ?_
            rotate_left
            · exact AllReady.nil
            go_simp
            go_wp2_with fail
            refine Calls.mono (hjn W) ?_
            rintro e w8 ⟨rfl, hb8⟩
            have hX8 := hX5.ext hb8
            have hO8 := hO5.ext hb8
            have hL8 := hL5.ext hb8
            have hS8 := hS5.ext hb8
            have hw8 := hw5.ext hb8
            clear hX5 hO5 hL5 hS5 hw5 hb8 hjn
            have y0 : w8.cell? ⟨bx, 0, none⟩ = some (.string nm) := hX8.cell 0
            have y1 : w8.cell? ⟨bx, 1, none⟩ = some (.int .u64 (lo m)) := hX8.cell 1
            have y2 : w8.cell? ⟨bx, 2, none⟩ = some (.int .u64 (hi m)) := hX8.cell 2
            have ly := hX8.lt
            have f1 := hX8.frozen 1
            have f2 := hX8.frozen 2
            go_wp2_with fail
            refine wpAny_take (i := 14) (v := ?_) rfl (by kernel_rfl) (by kernel_rfl) (by kernel_rfl) (fun _ _ _ h => h) (Or.inl ⟨by rfl, ?_⟩) ?_
            rotate_left
            · (intro W9; go_simp; try with_reducible rfl)
            refine wpAny_ready (rs := [15]) (by kernel_rfl) (by simp) ?_
            refine AllReady.cons rfl (fun K hK => ?_) ?_
            rotate_left
            · exact AllReady.nil
            go_simp
            refine hK _ _ ?_
            clear hK K
            refine wpAny_done (by kernel_rfl) ?_ _
            have hX9 := (hX8.set 1 (.int .u64 (lo m2))).set 2 (.int .u64 (hi m2))
            have hO9 := (hO8.far (p := ⟨bx, 1, none⟩) hne (.int .u64 (lo m2))).far (p := ⟨bx, 2, none⟩) hne (.int .u64 (hi m2))
            have hL9 := hL8.win (lo := bx) (hi := bx + 1) (((Win.refl _ _ w8).set1 (i := 1) (.int .u64 (lo m2))).set1 (i := 2) (.int .u64 (hi m2))) (fun p hp => by cases hp; exact .inl (by show bL < bx; omega))
            have hS9 := (hS8.set (p := ⟨bx, 1, none⟩) (show base ≤ bx by omega) (show bx ≠ b by omega) (.int .u64 (lo m2))).set (p := ⟨bx, 2, none⟩) (show base ≤ bx by omega) (show bx ≠ b by omega) (.int .u64 (hi m2))
            have hw9 := (hw8.setOut (p := ⟨bx, 1, none⟩) (show w.heap.size ≤ bx by omega) (.int .u64 (lo m2))).setOut (p := ⟨bx, 2, none⟩) (show w.heap.size ≤ bx by omega) (.int .u64 (hi m2))
            clear y0 y1 y2 ly f1 f2 hX8 hO8 hL8 hS8 hw8
            go_wp2
            go_roundg (xs.length - (i + 1))
            case rel => exact ⟨i + 1, m2, rfl, by omega, by first | rfl | simp, hm2, hX9, hO9, hL9, hS9.up (by omega) (by omega), hw9⟩
            case measure => omega
        · obtain rfl : i = xs.length := by omega
          go_wp2_with fail
          refine Calls.mono (src_one base b _ 8 (by omega) wr hS (by omega)) ?_
          rintro e w4 ⟨one, rfl, hSw4, hWw4⟩
          have hXw4 := hX.win hWw4 (.inr (by omega))
          have hOw4 := hO.win hWw4 (fun b' h => .inr (by have := (hob b' h).1; omega))
          have hLw4 := hLi.winN hWw4 (fun _ p hp => .inl (hLb p hp))
          have hww4 := hw.trans hWw4
          clear hX hO hLi hS hw hWw4
          cases one with
          | false =>
            have kX := hXw4
            have kO := hOw4
            have kL := hLw4
            have kS := hSw4
            have kw := hww4
            clear hXw4 hOw4 hLw4 hSw4 hww4
            have x0 : w4.cell? ⟨bx, 0, none⟩ = some (.string nm) := kX.cell 0
            have x1 : w4.cell? ⟨bx, 1, none⟩ = some (.int .u64 (lo m)) := kX.cell 1
            have x2 : w4.cell? ⟨bx, 2, none⟩ = some (.int .u64 (hi m)) := kX.cell 2
            have lx := kX.lt
            have kz := kw.size
            have kl := hlen.out
            go_wp2_with (at_builtin; refine wpList_pushW (base := w.heap.size) (xs := ds) encCrd (by rfl) _ _ 31 (.agg #[.string ⟨#[]⟩, .int .u64 0, .int .u64 0]) 32 (by rfl) Tryz.underlying31 info_CrdK (by rfl) (⟨nm, m⟩ : Crd) (by rfl) (by rfl) (by simp) kO (by simpa using kz) (by omega) (by omega) ?_)
            intro v7 W7 hO7 hg7 ho7
            have hL7 := kL.grown hg7 (fun p hp h => by have h1 := (kO.lt _ h).1; have h2 := hLb p hp; omega)
            have hS7 := kS.grown hg7 (fun j hj => by have := (kO.lt j hj).1; omega)
            have hw7 := kw.grownOut hg7 (fun j hj => (kO.lt j hj).1)
            have hD7 := hpush (m) hm
            have hlen7 : Hd ((ds ++ [(⟨nm, m⟩ : Crd)]).length + k = k0) := hd (by rw [List.length_append, List.length_singleton]; omega)
            clear x0 x1 x2 lx
            go_wp2
            go_roundg k
            case rel => exact ⟨k, _, rfl, rfl, hlen7, hD7, hO7, hL7, hS7.up (by omega) (by omega), hw7⟩
            case measure => omega
          | true =>
            go_wp2
            refine wp_region_any (by kernel_rfl) ?_
            change wpAny _ _ _ _ _ _ _ (World.drew _)
            refine intro_world (fun WD hWD => ?_)
            have eD : Ext w4 WD := by rw [hWD]; exact (Ext.refl _).drew
            clear hWD
            have hXWD := hXw4.ext eD
            have hOWD := hOw4.ext eD
            have hLWD := hLw4.ext eD
            have hSWD := hSw4.ext eD
            have hwWD := hww4.ext eD
            clear hXw4 hOw4 hLw4 hSw4 hww4 eD
            refine wpAny_take (i := 0) (v := ?_) rfl (by kernel_rfl) (by kernel_rfl) (by kernel_rfl) (fun _ _ _ h => h) (Or.inl ⟨by rfl, ?_⟩) ?_
            rotate_left
            · (intro W9; go_simp; try with_reducible rfl)
            refine wpAny_take (i := 2) (v := ?_) rfl (by kernel_rfl) (by kernel_rfl) (by kernel_rfl) (fun _ _ _ h => h) (Or.inl ⟨by rfl, ?_⟩) ?_
            rotate_left
            · (intro W9; go_simp; try with_reducible rfl)
            apply Conv.convR (C := fun v W => 0 ≤ v ∧ v < 96 ∧ BoxAt W bx #[.string nm, .int .u64 (lo m), .int .u64 (hi m)] 59 ∧ Ow encCrd 59 W w.heap.size (.slice A ds.length cap) ds ∧ Rd encFld W L xs ∧ Src W base b (n + 300 - 30 * (k + 1) + 4 * xs.length + 2 + 2) ∧ Win b (b + 1) w W)
            case h =>
              intro hk
              refine wpAny_ready (rs := [1, 3]) (by kernel_rfl) (by simp) ?_
              refine AllReady.cons rfl (fun K hK => ?_) (AllReady.cons rfl (fun K hK => ?_) AllReady.nil)
              · have y0 : WD.cell? ⟨bx, 0, none⟩ = some (.string nm) := hXWD.cell 0
                have y1 : WD.cell? ⟨bx, 1, none⟩ = some (.int .u64 (lo m)) := hXWD.cell 1
                have y2 : WD.cell? ⟨bx, 2, none⟩ = some (.int .u64 (hi m)) := hXWD.cell 2
                have ly := hXWD.lt
                go_simp
                refine hK _ _ ?_
                clear hK K
                clear ly y0 y1 y2
                refine wpAny_ready (rs := [3]) (by kernel_rfl) (by simp) ?_
                refine AllReady.cons rfl (fun K hK => ?_) ?_
                rotate_left
                · exact AllReady.nil
                go_simp
                go_wp2_with fail
                refine Calls.mono (src_pick base b _ 96 (by omega) WD hSWD (by omega)) ?_
                rintro e w6 ⟨v, rfl, v0, v1, hSw6, hWw6⟩
                have hXw6 := hXWD.win hWw6 (.inr (by omega))
                have hOw6 := hOWD.win hWw6 (fun b' h => .inr (by have := (hob b' h).1; omega))
                have hLw6 := hLWD.winN hWw6 (fun _ p hp => .inl (hLb p hp))
                have hww6 := hwWD.trans hWw6
                go_wp2_with fail
                refine wpAny_ready (rs := [4]) (by kernel_rfl) (by simp) ?_
                refine AllReady.cons rfl (fun K hK => ?_) ?_
                rotate_left
                · exact AllReady.nil
                go_simp
                go_wp2_with fail
                refine Calls.mono (spec_l01Bit v (by omega) (by omega) w6) ?_
                rintro e w7 ⟨rfl, hbw7⟩
                have hXw7 := hXw6.ext hbw7
                have hOw7 := hOw6.ext hbw7
                have hLw7 := hLw6.ext hbw7
                have hSw7 := hSw6.ext hbw7
                have hww7 := hww6.ext hbw7
                go_wp2_with fail
                exact hk v w7 ⟨v0, by omega, hXw7, hOw7, hLw7, hSw7, hww7⟩
              · go_simp
                go_wp2_with fail
                refine Calls.mono (src_pick base b _ 96 (by omega) WD hSWD (by omega)) ?_
                rintro e w6 ⟨v, rfl, v0, v1, hSw6, hWw6⟩
                have hXw6 := hXWD.win hWw6 (.inr (by omega))
                have hOw6 := hOWD.win hWw6 (fun b' h => .inr (by have := (hob b' h).1; omega))
                have hLw6 := hLWD.winN hWw6 (fun _ p hp => .inl (hLb p hp))
                have hww6 := hwWD.trans hWw6
                go_wp2_with fail
                refine wpAny_ready (rs := [1, 4]) (by kernel_rfl) (by simp) ?_
                refine AllReady.cons rfl (fun K hK => ?_) (AllReady.cons rfl (fun K hK => ?_) AllReady.nil)
                · have y0 : w6.cell? ⟨bx, 0, none⟩ = some (.string nm) := hXw6.cell 0
                  have y1 : w6.cell? ⟨bx, 1, none⟩ = some (.int .u64 (lo m)) := hXw6.cell 1
                  have y2 : w6.cell? ⟨bx, 2, none⟩ = some (.int .u64 (hi m)) := hXw6.cell 2
                  have ly := hXw6.lt
                  go_simp
                  refine hK _ _ ?_
                  clear hK K
                  clear ly y0 y1 y2
                  refine wpAny_ready (rs := [4]) (by kernel_rfl) (by simp) ?_
                  refine AllReady.cons rfl (fun K hK => ?_) ?_
                  rotate_left
                  · exact AllReady.nil
                  go_simp
                  go_wp2_with fail
                  refine Calls.mono (spec_l01Bit v (by omega) (by omega) w6) ?_
                  rintro e w7 ⟨rfl, hbw7⟩
                  have hXw7 := hXw6.ext hbw7
                  have hOw7 := hOw6.ext hbw7
                  have hLw7 := hLw6.ext hbw7
                  have hSw7 := hSw6.ext hbw7
                  have hww7 := hww6.ext hbw7
                  go_wp2_with fail
                  exact hk v w7 ⟨v0, by omega, hXw7, hOw7, hLw7, hSw7, hww7⟩
                · go_simp
                  go_wp2_with fail
                  refine Calls.mono (spec_l01Bit v (by omega) (by omega) w6) ?_
                  rintro e w7 ⟨rfl, hbw7⟩
                  have hXw7 := hXw6.ext hbw7
                  have hOw7 := hOw6.ext hbw7
                  have hLw7 := hLw6.ext hbw7
                  have hSw7 := hSw6.ext hbw7
                  have hww7 := hww6.ext hbw7
                  go_wp2_with fail
                  have y0 : w7.cell? ⟨bx, 0, none⟩ = some (.string nm) := hXw7.cell 0
                  have y1 : w7.cell? ⟨bx, 1, none⟩ = some (.int .u64 (lo m)) := hXw7.cell 1
                  have y2 : w7.cell? ⟨bx, 2, none⟩ = some (.int .u64 (hi m)) := hXw7.cell 2
                  have ly := hXw7.lt
                  refine wpAny_ready (rs := [1]) (by kernel_rfl) (by simp) ?_
                  refine AllReady.cons rfl (fun K hK => ?_) ?_
                  rotate_left
                  · exact AllReady.nil
                  go_simp
                  refine hK _ _ ?_
                  clear hK K
                  clear ly y0 y1 y2
                  exact hk v w7 ⟨v0, by omega, hXw7, hOw7, hLw7, hSw7, hww7⟩
            rintro v W ⟨v0, v1, hX5, hO5, hL5, hS5, hw5⟩
            have hcm := sm_bitD v0 v1
            have hjn := fun W => spec_l01Join m (mbit v) W
            have hm2 := sm_joinV hm hcm
            generalize mbit v = cv at hjn hm2 ⊢
            generalize mjoin m cv = m2 at hjn hm2
            clear hcm
            refine wpAny_ready (rs := [5]) (by kernel_rfl) (by simp) ?_
            refine AllReady.cons rfl (fun K hK => ?_) ?_
            rotate_left
            · exact AllReady.nil
            go_simp
            go_wp2_with fail
            refine Calls.mono (hjn W) ?_
            rintro e w8 ⟨rfl, hb8⟩
            have hX8 := hX5.ext hb8
            have hO8 := hO5.ext hb8
            have hL8 := hL5.ext hb8
            have hS8 := hS5.ext hb8
            have hw8 := hw5.ext hb8
            clear hX5 hO5 hL5 hS5 hw5 hb8 hjn
            have y0 : w8.cell? ⟨bx, 0, none⟩ = some (.string nm) := hX8.cell 0
            have y1 : w8.cell? ⟨bx, 1, none⟩ = some (.int .u64 (lo m)) := hX8.cell 1
            have y2 : w8.cell? ⟨bx, 2, none⟩ = some (.int .u64 (hi m)) := hX8.cell 2
            have ly := hX8.lt
            have f1 := hX8.frozen 1
            have f2 := hX8.frozen 2
            go_wp2_with fail
            refine wpAny_take (i := 6) (v := ?_) rfl (by kernel_rfl) (by kernel_rfl) (by kernel_rfl) (fun _ _ _ h => h) (Or.inl ⟨by rfl, ?_⟩) ?_
            rotate_left
            · (intro W9; go_simp; try with_reducible rfl)
            refine wpAny_ready (rs := [7]) (by kernel_rfl) (by simp) ?_
            refine AllReady.cons rfl (fun K hK => ?_) ?_
            rotate_left
            · exact AllReady.nil
            go_simp
            refine hK _ _ ?_
            clear hK K
            refine wpAny_done (by kernel_rfl) ?_ _
            have kX := (hX8.set 1 (.int .u64 (lo m2))).set 2 (.int .u64 (hi m2))
            have kO := (hO8.far (p := ⟨bx, 1, none⟩) hne (.int .u64 (lo m2))).far (p := ⟨bx, 2, none⟩) hne (.int .u64 (hi m2))
            have kL := hL8.win (lo := bx) (hi := bx + 1) (((Win.refl _ _ w8).set1 (i := 1) (.int .u64 (lo m2))).set1 (i := 2) (.int .u64 (hi m2))) (fun p hp => .inl (by have := hLb p hp; omega))
            have kS := (hS8.set (p := ⟨bx, 1, none⟩) (show base ≤ bx by omega) (show bx ≠ b by omega) (.int .u64 (lo m2))).set (p := ⟨bx, 2, none⟩) (show base ≤ bx by omega) (show bx ≠ b by omega) (.int .u64 (hi m2))
            have kw := (hw8.setOut (p := ⟨bx, 1, none⟩) (show w.heap.size ≤ bx by omega) (.int .u64 (lo m2))).setOut (p := ⟨bx, 2, none⟩) (show w.heap.size ≤ bx by omega) (.int .u64 (hi m2))
            clear y0 y1 y2 ly f1 f2 hX8 hO8 hL8 hS8 hw8
            refine intro_world (fun WF hWF => ?_)
            rw [← hWF] at kX kO kL kS kw
            clear hWF
            replace kX : BoxAt WF bx #[.string nm, .int .u64 (lo m2), .int .u64 (hi m2)] 59 := kX
            have x0 : WF.cell? ⟨bx, 0, none⟩ = some (.string nm) := kX.cell 0
            have x1 : WF.cell? ⟨bx, 1, none⟩ = some (.int .u64 (lo m2)) := kX.cell 1
            have x2 : WF.cell? ⟨bx, 2, none⟩ = some (.int .u64 (hi m2)) := kX.cell 2
            have lx := kX.lt
            have kz := kw.size
            have kl := hlen.out
            go_wp2_with (at_builtin; refine wpList_pushW (base := w.heap.size) (xs := ds) encCrd (by rfl) _ _ 31 (.agg #[.string ⟨#[]⟩, .int .u64 0, .int .u64 0]) 32 (by rfl) Tryz.underlying31 info_CrdK (by rfl) (⟨nm, m2⟩ : Crd) (by rfl) (by rfl) (by simp) kO (by simpa using kz) (by omega) (by omega) ?_)
            intro v7 W7 hO7 hg7 ho7
            have hL7 := kL.grown hg7 (fun p hp h => by have h1 := (kO.lt _ h).1; have h2 := hLb p hp; omega)
            have hS7 := kS.grown hg7 (fun j hj => by have := (kO.lt j hj).1; omega)
            have hw7 := kw.grownOut hg7 (fun j hj => (kO.lt j hj).1)
            have hD7 := hpush (m2) hm2
            have hlen7 : Hd ((ds ++ [(⟨nm, m2⟩ : Crd)]).length + k = k0) := hd (by rw [List.length_append, List.length_singleton]; omega)
            clear x0 x1 x2 lx
            go_wp2
            go_roundg k
            case rel => exact ⟨k, _, rfl, rfl, hlen7, hD7, hO7, hL7, hS7.up (by omega) (by omega), hw7⟩
            case measure => omega
theorem spec_A2Deck (cs : List UInt8) (A : Option Addr) (cap : Nat) (xs : List Fld) (L : Option Addr) (lcap : Nat) (w : World) (hR : Rd encU8 w A cs) (hn : cs.length ≤ 1099511627776) (hL : Rd encFld w L xs) (h1 : 1 ≤ xs.length) (hx5 : xs.length ≤ 5) (hDs : DrawnS xs) :
    Calls Tryz.prog 12 #[.slice A cs.length cap, .slice L xs.length lcap] w fun e w' => ∃ ds v, e = .returned v ∧ Ow encCrd 59 w' w.heap.size v ds ∧ DrawnD ds ∧ Ext w w' := by
  have hf := spec_l00From cs A cap w w hR hn (Ext.refl w)
  go_enter Tryz.func12, Tryz.ntmps12
  go_wp2_with fail
  refine Calls.mono hf ?_
  rintro e w1 ⟨b, rfl, hS, hb, hE1⟩
  have hc := spec_l02Drawn _ b 0 xs L lcap w1 hS (by omega) (hL.ext hE1) (fun p hp => by have := hL.blk (List.length_pos_iff.1 h1) p hp; omega) hx5 hDs
  clear hf
  go_wp2_with fail
  refine Calls.mono hc ?_
  rintro e w2 ⟨ds, v, rfl, hO, hD, hS2, hW2⟩
  clear hc
  go_wp2
  go_ret
  exact ⟨ds, v, rfl, hO.lower hE1.size, hD, hE1.win hW2 hb⟩
end Go.Proofs.YtciepjdacmjhlaaGreatDoor
set_option linter.unusedVariables false
set_option linter.unusedSimpArgs false
set_option maxRecDepth 100000
namespace Go.Proofs.YtciepjdacmjhlaaGreatDoor
open Go.RowKit
/-- The elements of a slice of queries. -/
def encQry : Enc Qry where
  enc q := [.int .u64 (lo q.al), .int .u64 (hi q.al), .int .u64 (lo q.no), .int .u64 (hi q.no)]
  sz := 4
  len _ := rfl
  one m u hu := by
    simp only [List.mem_cons, List.not_mem_nil, or_false] at hu
    rcases hu with rfl | rfl | rfl | rfl <;> rfl
  pos := by decide
theorem Rd.qry {w : World} {b off : Nat} {xs : List Qry} (h : Rd encQry w (some ⟨b, off, none⟩) xs) (k : Nat) (hk : k < xs.length) :
    w.cell? ⟨b, off + k * 4, none⟩ = some (.int .u64 (lo xs[k].al)) ∧ w.cell? ⟨b, off + k * 4 + 1, none⟩ = some (.int .u64 (hi xs[k].al)) ∧ w.cell? ⟨b, off + k * 4 + 2, none⟩ = some (.int .u64 (lo xs[k].no)) ∧ w.cell? ⟨b, off + k * 4 + 3, none⟩ = some (.int .u64 (hi xs[k].no)) ∧ b < w.heap.size := by
  obtain ⟨b', off', e1, hlt, hc⟩ := h k hk
  simp only [Option.some.injEq, Addr.mk.injEq, and_true] at e1
  obtain ⟨rfl, rfl⟩ := e1
  exact ⟨hc 0 _ rfl, hc 1 _ rfl, hc 2 _ rfl, hc 3 _ rfl, hlt⟩
instance : Inhabited Qry := ⟨⟨0, 0⟩⟩
set_option maxHeartbeats 400000 in
theorem impl_isQuery (q : Qry) (w : World) :
    Calls Tryz.prog 50 #[.agg #[.int .u64 (lo q.al), .int .u64 (hi q.al), .int .u64 (lo q.no), .int .u64 (hi q.no)]] w fun e w' => e = .returned (.bool (qryB q)) ∧ Ext w w' := by
  have e1 := lohi_zero (mmeet q.al q.no)
  have e2 := eqA_Mask
  unfold qryB
  cases ht : isMaskB q.al
  · go_enter Tryz.func50, Tryz.ntmps50
    go_wp2_with fail
    refine Calls.mono (impl_isMask _ _) ?_
    rintro e w1 ⟨rfl, hb1⟩
    obtain ⟨hc1, hf1, hz1⟩ := bcell3 hb1
    try simp at hz1
    have hz1_0 : w.heap.size < w1.heap.size := by omega
    go_wp2_with fail
    go_ret
    refine ⟨rfl, ?_⟩
    (repeat (first | with_reducible exact Ext.refl _ | with_reducible exact hw | with_reducible exact hb9 | with_reducible exact hb8 | with_reducible exact hb7 | with_reducible exact hb6 | with_reducible exact hb5 | with_reducible exact hb4 | with_reducible exact hb3 | with_reducible exact hb2 | with_reducible exact hb1 | with_reducible refine Ext.alloc ?_ _ | with_reducible refine Ext.drew ?_ | ((with_reducible refine Ext.set ?_ ?_ _); focus (dsimp only; omega)) | with_reducible refine Ext.trans ?_ hb9 | with_reducible refine Ext.trans ?_ hb8 | with_reducible refine Ext.trans ?_ hb7 | with_reducible refine Ext.trans ?_ hb6 | with_reducible refine Ext.trans ?_ hb5 | with_reducible refine Ext.trans ?_ hb4 | with_reducible refine Ext.trans ?_ hb3 | with_reducible refine Ext.trans ?_ hb2 | with_reducible refine Ext.trans ?_ hb1 | with_reducible refine Ext.trans ?_ hw))
  cases hf : isMaskB q.no
  · go_enter Tryz.func50, Tryz.ntmps50
    go_wp2_with fail
    refine Calls.mono (impl_isMask _ _) ?_
    rintro e w1 ⟨rfl, hb1⟩
    obtain ⟨hc1, hf1, hz1⟩ := bcell3 hb1
    try simp at hz1
    have hz1_0 : w.heap.size < w1.heap.size := by omega
    go_wp2_with fail
    refine Calls.mono (impl_isMask _ _) ?_
    rintro e w2 ⟨rfl, hb2⟩
    obtain ⟨hc2, hf2, hz2⟩ := bcell3 hb2
    try simp at hz2
    have hz2_0 : w.heap.size < w2.heap.size := by omega
    go_wp2_with fail
    go_ret
    refine ⟨rfl, ?_⟩
    (repeat (first | with_reducible exact Ext.refl _ | with_reducible exact hw | with_reducible exact hb9 | with_reducible exact hb8 | with_reducible exact hb7 | with_reducible exact hb6 | with_reducible exact hb5 | with_reducible exact hb4 | with_reducible exact hb3 | with_reducible exact hb2 | with_reducible exact hb1 | with_reducible refine Ext.alloc ?_ _ | with_reducible refine Ext.drew ?_ | ((with_reducible refine Ext.set ?_ ?_ _); focus (dsimp only; omega)) | with_reducible refine Ext.trans ?_ hb9 | with_reducible refine Ext.trans ?_ hb8 | with_reducible refine Ext.trans ?_ hb7 | with_reducible refine Ext.trans ?_ hb6 | with_reducible refine Ext.trans ?_ hb5 | with_reducible refine Ext.trans ?_ hb4 | with_reducible refine Ext.trans ?_ hb3 | with_reducible refine Ext.trans ?_ hb2 | with_reducible refine Ext.trans ?_ hb1 | with_reducible refine Ext.trans ?_ hw))
  · go_enter Tryz.func50, Tryz.ntmps50
    go_wp2_with fail
    refine Calls.mono (impl_isMask _ _) ?_
    rintro e w1 ⟨rfl, hb1⟩
    obtain ⟨hc1, hf1, hz1⟩ := bcell3 hb1
    try simp at hz1
    have hz1_0 : w.heap.size < w1.heap.size := by omega
    go_wp2_with fail
    refine Calls.mono (impl_isMask _ _) ?_
    rintro e w2 ⟨rfl, hb2⟩
    obtain ⟨hc2, hf2, hz2⟩ := bcell3 hb2
    try simp at hz2
    have hz2_0 : w.heap.size < w2.heap.size := by omega
    go_wp2_with fail
    refine Calls.mono (impl_MeetMasks _ _ _) ?_
    rintro e w3 ⟨rfl, hb3⟩
    obtain ⟨hc3, hf3, hz3⟩ := bcell3 hb3
    try simp at hz3
    have hz3_0 : w.heap.size < w3.heap.size := by omega
    go_wp2_with fail
    go_ret
    refine ⟨rfl, ?_⟩
    (repeat (first | with_reducible exact Ext.refl _ | with_reducible exact hw | with_reducible exact hb9 | with_reducible exact hb8 | with_reducible exact hb7 | with_reducible exact hb6 | with_reducible exact hb5 | with_reducible exact hb4 | with_reducible exact hb3 | with_reducible exact hb2 | with_reducible exact hb1 | with_reducible refine Ext.alloc ?_ _ | with_reducible refine Ext.drew ?_ | ((with_reducible refine Ext.set ?_ ?_ _); focus (dsimp only; omega)) | with_reducible refine Ext.trans ?_ hb9 | with_reducible refine Ext.trans ?_ hb8 | with_reducible refine Ext.trans ?_ hb7 | with_reducible refine Ext.trans ?_ hb6 | with_reducible refine Ext.trans ?_ hb5 | with_reducible refine Ext.trans ?_ hb4 | with_reducible refine Ext.trans ?_ hb3 | with_reducible refine Ext.trans ?_ hb2 | with_reducible refine Ext.trans ?_ hb1 | with_reducible refine Ext.trans ?_ hw))
set_option maxHeartbeats 400000 in
theorem impl_drops (q : Qry) (m : Mask) (w : World) :
    Calls Tryz.prog 66 #[.agg #[.int .u64 (lo q.al), .int .u64 (hi q.al), .int .u64 (lo q.no), .int .u64 (hi q.no)], .agg #[.int .u64 (lo m), .int .u64 (hi m)]] w fun e w' => e = .returned (.bool (drpB q m)) ∧ Ext w w' := by
  have e1 := lohi_zero (mmeet q.no m)
  have e2 := eqA_Mask
  unfold drpB
  have h1 := fun W => impl_IsWithin q.al m W
  have h2 := fun W => impl_MeetMasks q.no m W
  generalize mmeet q.no m = t at e1 h2
  cases hz : mzero (mless q.al m) with
  | false =>
    rw [hz] at h1
    go_enter Tryz.func66, Tryz.ntmps66
    go_wp2_with fail
    refine Calls.mono (h1 _) ?_
    rintro e w1 ⟨rfl, hb1⟩
    go_wp2
    go_ret
    refine ⟨rfl, ?_⟩
    (repeat (first | with_reducible exact Ext.refl _ | with_reducible exact hw | with_reducible exact hb9 | with_reducible exact hb8 | with_reducible exact hb7 | with_reducible exact hb6 | with_reducible exact hb5 | with_reducible exact hb4 | with_reducible exact hb3 | with_reducible exact hb2 | with_reducible exact hb1 | with_reducible refine Ext.alloc ?_ _ | with_reducible refine Ext.drew ?_ | ((with_reducible refine Ext.set ?_ ?_ _); focus (dsimp only; omega)) | with_reducible refine Ext.trans ?_ hb9 | with_reducible refine Ext.trans ?_ hb8 | with_reducible refine Ext.trans ?_ hb7 | with_reducible refine Ext.trans ?_ hb6 | with_reducible refine Ext.trans ?_ hb5 | with_reducible refine Ext.trans ?_ hb4 | with_reducible refine Ext.trans ?_ hb3 | with_reducible refine Ext.trans ?_ hb2 | with_reducible refine Ext.trans ?_ hb1 | with_reducible refine Ext.trans ?_ hw))
  | true =>
    rw [hz] at h1
    have hX : BoxAt ((w.alloc (.cells #[.int .u64 (lo q.al), .int .u64 (hi q.al), .int .u64 (lo q.no), .int .u64 (hi q.no)] 44)).alloc (.cells #[.int .u64 (lo m), .int .u64 (hi m)] 42)) w.heap.size #[.int .u64 (lo q.al), .int .u64 (hi q.al), .int .u64 (lo q.no), .int .u64 (hi q.no)] 44 := (BoxAt.new' rfl).alloc _
    have hY : BoxAt ((w.alloc (.cells #[.int .u64 (lo q.al), .int .u64 (hi q.al), .int .u64 (lo q.no), .int .u64 (hi q.no)] 44)).alloc (.cells #[.int .u64 (lo m), .int .u64 (hi m)] 42)) (w.heap.size + 1) #[.int .u64 (lo m), .int .u64 (hi m)] 42 := BoxAt.new' (by simp)
    go_enter Tryz.func66, Tryz.ntmps66
    go_wp2_with fail
    refine Calls.mono (h1 _) ?_
    rintro e w1 ⟨rfl, hb1⟩
    replace hX := hX.ext hb1
    replace hY := hY.ext hb1
    have x0 : w1.cell? ⟨w.heap.size, 0, none⟩ = some (.int .u64 (lo q.al)) := hX.cell 0
    have x1 : w1.cell? ⟨w.heap.size, 1, none⟩ = some (.int .u64 (hi q.al)) := hX.cell 1
    have x2 : w1.cell? ⟨w.heap.size, 2, none⟩ = some (.int .u64 (lo q.no)) := hX.cell 2
    have x3 : w1.cell? ⟨w.heap.size, 3, none⟩ = some (.int .u64 (hi q.no)) := hX.cell 3
    have lx := hX.lt
    have y0 : w1.cell? ⟨w.heap.size + 1, 0, none⟩ = some (.int .u64 (lo m)) := hY.cell 0
    have y1 : w1.cell? ⟨w.heap.size + 1, 1, none⟩ = some (.int .u64 (hi m)) := hY.cell 1
    have ly := hY.lt
    go_wp2_with fail
    refine Calls.mono (h2 _) ?_
    rintro e w2 ⟨rfl, hb2⟩
    go_wp2
    go_ret
    refine ⟨rfl, ?_⟩
    (repeat (first | with_reducible exact Ext.refl _ | with_reducible exact hw | with_reducible exact hb9 | with_reducible exact hb8 | with_reducible exact hb7 | with_reducible exact hb6 | with_reducible exact hb5 | with_reducible exact hb4 | with_reducible exact hb3 | with_reducible exact hb2 | with_reducible exact hb1 | with_reducible refine Ext.alloc ?_ _ | with_reducible refine Ext.drew ?_ | ((with_reducible refine Ext.set ?_ ?_ _); focus (dsimp only; omega)) | with_reducible refine Ext.trans ?_ hb9 | with_reducible refine Ext.trans ?_ hb8 | with_reducible refine Ext.trans ?_ hb7 | with_reducible refine Ext.trans ?_ hb6 | with_reducible refine Ext.trans ?_ hb5 | with_reducible refine Ext.trans ?_ hb4 | with_reducible refine Ext.trans ?_ hb3 | with_reducible refine Ext.trans ?_ hb2 | with_reducible refine Ext.trans ?_ hb1 | with_reducible refine Ext.trans ?_ hw))
set_option maxHeartbeats 400000 in
theorem spec_IsWithinQ (a b : Mask) (w : World) :
    Calls Tryz.prog 121 #[.agg #[.int .u64 (lo a), .int .u64 (hi a)], .agg #[.int .u64 (lo b), .int .u64 (hi b)]] w fun e w' => e = .returned (.bool (mzero (mless a b))) ∧ Ext w w' := by
  have h1 := fun W => spec_l01Less a b W
  have e1 := lohi_zero (mless a b)
  have e2 := eqA_Mask
  generalize mless a b = q at h1 e1 ⊢
  go_enter Tryz.func121, Tryz.ntmps121
  go_wp2_with fail
  refine Calls.mono (h1 _) ?_
  rintro e w1 ⟨rfl, hb1⟩
  go_wp2
  go_ret
  exact ⟨rfl, ((((Ext.refl w).alloc _).alloc _)).trans hb1⟩
set_option maxHeartbeats 1000000 in
theorem spec_l02Query (q : Qry) (b o : Nat) (w : World) (hb : b < w.heap.size) (h0 : w.cell? ⟨b, o, none⟩ = some (.int .u64 (lo q.al))) (h1 : w.cell? ⟨b, o + 1, none⟩ = some (.int .u64 (hi q.al)))
    (h2 : w.cell? ⟨b, o + 2, none⟩ = some (.int .u64 (lo q.no))) (h3 : w.cell? ⟨b, o + 2 + 1, none⟩ = some (.int .u64 (hi q.no))) :
    Calls Tryz.prog 56 #[.pointer (some ⟨b, o, none⟩)] w fun e w' => e = .returned (.bool (qryB q)) ∧ Ext w w' := by
  have hx := @ExtOf.cell
  have e1 := lohi_zero (mmeet q.al q.no)
  have e2 := eqA_Mask
  unfold qryB
  cases ht : isMaskB q.al <;> cases hf : isMaskB q.no
  all_goals
    go_enter Tryz.func56, Tryz.ntmps56
    go_wp2_with fail
    refine wp_region_ext (by kernel_rfl) (by kernel_rfl) ?_
    repeat (first | go_big_quiet_step (((first | (go_at_call 99; with_reducible exact Calls.ext_of (spec_l01Mask _ _)) | (go_at_call 70; with_reducible exact Calls.ext_of (spec_l01Meet _ _ _))))) | quiet_step (((first | (go_at_call 99; with_reducible exact Calls.ext_of (spec_l01Mask _ _)) | (go_at_call 70; with_reducible exact Calls.ext_of (spec_l01Meet _ _ _))))))
    refine wpQuiet_nil ?_
    intro w1 hq1
    have hb1 := ext_of_class hq1
    clear hq1
    obtain ⟨hc1, hf1, hz1⟩ := bcell3 hb1
    try simp at hz1
    go_wp2
    go_ret
    exact ⟨rfl, hb1⟩
set_option maxHeartbeats 1000000 in
theorem spec_l02Drops (q : Qry) (m : Mask) (b o : Nat) (w : World) (hb : b < w.heap.size) (h0 : w.cell? ⟨b, o, none⟩ = some (.int .u64 (lo q.al))) (h1 : w.cell? ⟨b, o + 1, none⟩ = some (.int .u64 (hi q.al)))
    (h2 : w.cell? ⟨b, o + 2, none⟩ = some (.int .u64 (lo q.no))) (h3 : w.cell? ⟨b, o + 2 + 1, none⟩ = some (.int .u64 (hi q.no))) :
    Calls Tryz.prog 100 #[.pointer (some ⟨b, o, none⟩), .agg #[.int .u64 (lo m), .int .u64 (hi m)]] w fun e w' => e = .returned (.bool (drpB q m)) ∧ Ext w w' := by
  have hx := @ExtOf.cell
  have e1 := lohi_zero (mmeet q.no m)
  have e2 := eqA_Mask
  have n1 : ¬ (b = w.heap.size) := by omega
  have n3 : b < w.heap.size + 1 := by omega
  unfold drpB
  have c1 := fun W => spec_IsWithinQ q.al m W
  cases hz : mzero (mless q.al m)
  all_goals
    rw [hz] at c1
    go_enter Tryz.func100, Tryz.ntmps100
    go_wp2_with fail
    refine wp_region_ext (by kernel_rfl) (by kernel_rfl) ?_
    repeat (first | go_big_quiet_step (((first | (go_at_call 121; with_reducible exact Calls.ext_of (c1 _)) | (go_at_call 70; with_reducible exact Calls.ext_of (spec_l01Meet _ _ _))))) | quiet_step (((first | (go_at_call 121; with_reducible exact Calls.ext_of (c1 _)) | (go_at_call 70; with_reducible exact Calls.ext_of (spec_l01Meet _ _ _))))))
    refine wpQuiet_nil ?_
    intro w1 hq1
    have hb1 := ext_of_class hq1
    clear hq1
    obtain ⟨hc1, hf1, hz1⟩ := bcell3 hb1
    try simp at hz1
    have hz1_0 : w.heap.size < w1.heap.size := by omega
    go_wp2
    go_ret
    exact ⟨rfl, ((Ext.refl w).alloc _).trans hb1⟩
theorem impl_droppedBy1 (q : Qry) (nm : ByteArray) (m : Mask) (bx : Nat) (w : World) (hX : BoxAt w bx #[.string nm, .int .u64 (lo m), .int .u64 (hi m)] 59) :
    Calls Tryz.prog 97 #[.agg #[.int .u64 (lo q.al), .int .u64 (hi q.al), .int .u64 (lo q.no), .int .u64 (hi q.no)], .pointer (some ⟨bx, 0, none⟩)] w fun e w' => e = .returned (.bool (drpB q m)) ∧ Ext w w' := by
  have h1 := fun W => impl_drops q m W
  have x0 : w.cell? ⟨bx, 0, none⟩ = some (.string nm) := hX.cell 0
  have x1 : w.cell? ⟨bx, 1, none⟩ = some (.int .u64 (lo m)) := hX.cell 1
  have x2 : w.cell? ⟨bx, 2, none⟩ = some (.int .u64 (hi m)) := hX.cell 2
  have lx := hX.lt
  have n1 : ¬ (bx = w.heap.size) := by omega
  go_enter Tryz.func97, Tryz.ntmps97
  go_wp2_with fail
  refine Calls.mono (h1 _) ?_
  rintro e w1 ⟨rfl, hb1⟩
  go_wp2
  go_ret
  exact ⟨rfl, ((Ext.refl w).alloc _).trans hb1⟩
theorem impl_AnyOf1 (q : Qry) (w : World) :
    Calls Tryz.prog 62 #[.agg #[.int .u64 (lo q.al), .int .u64 (hi q.al), .int .u64 (lo q.no), .int .u64 (hi q.no)]] w fun e w' => e = .returned (.bool (!(qryB q))) ∧ Ext w w' := by
  have h1 := fun W => impl_isQuery q W
  go_enter Tryz.func62, Tryz.ntmps62
  go_wp2_with fail
  refine Calls.mono (h1 _) ?_
  rintro e w1 ⟨rfl, hb1⟩
  go_wp2
  go_ret
  exact ⟨rfl, ((Ext.refl w).alloc _).trans hb1⟩
set_option maxHeartbeats 400000 in
theorem slices_IndexFunc_drops (xs : List Qry) (A : Option Addr) (n cap : Nat) (w : World) (hnx : n = xs.length) (hR : Rd encQry w A xs) (hn : n ≤ 1048576) (nm : ByteArray) (m : Mask) (bx : Nat) (hx : BoxAt w bx #[.string nm, .int .u64 (lo m), .int .u64 (hi m)] 59) :
    Calls Tryz.prog 102 #[.slice A n cap, .func (.func 97) #[] #[.pointer (some ⟨bx, 0, none⟩)]] w fun e w' => e = .returned (.int .i64 (fidx (fun q : Qry => drpB q m) xs)) ∧ Ext w w' := by
  subst hnx
  go_enter Tryz.func102, Tryz.ntmps102
  go_wp2
  go_loopg [8] xs.length (fun g i wr => ∃ k : Nat, g = xs.length - k ∧ k ≤ xs.length ∧ i = .int .i64 k ∧ Ext w wr ∧ (xs.take k).any (fun q : Qry => drpB q m) = false)
  case atStart => exact ⟨0, by omega, by omega, rfl, Ext.refl _, by rw [List.take_zero]; rfl⟩
  case round =>
    obtain ⟨k, hg, hk, rfl, hw, hQ⟩ := hrel
    by_cases hkl : k < xs.length
    · obtain ⟨b, off, hA, hlt, _⟩ := hR k hkl
      subst hA
      obtain ⟨m0, m1, m2, m3, m4⟩ := (hR.ext hw).qry k hkl
      have hs := any_take (fun q : Qry => drpB q m) xs k hkl
      rw [hQ, Bool.false_or] at hs
      cases hq : (fun q : Qry => drpB q m) xs[k] with
      | true =>
        have hM := fidx_hit (fun q : Qry => drpB q m) xs k hkl hq hQ
        try dsimp only at hq
        clear hs hQ
        go_wp2_with fail
        refine Calls.mono (impl_droppedBy1 xs[k] nm m bx _ (hx.ext hw)) ?_
        rintro e w1 ⟨rfl, hb1⟩
        simp only [hq]
        go_wp2
        go_ret
        exact ⟨by rw [hM]; rfl, by ((repeat (first | with_reducible exact Ext.refl _ | with_reducible exact hw | with_reducible exact hb9 | with_reducible exact hb8 | with_reducible exact hb7 | with_reducible exact hb6 | with_reducible exact hb5 | with_reducible exact hb4 | with_reducible exact hb3 | with_reducible exact hb2 | with_reducible exact hb1 | with_reducible refine Ext.alloc ?_ _ | with_reducible refine Ext.drew ?_ | ((with_reducible refine Ext.set ?_ ?_ _); focus (dsimp only; omega)) | with_reducible refine Ext.trans ?_ hb9 | with_reducible refine Ext.trans ?_ hb8 | with_reducible refine Ext.trans ?_ hb7 | with_reducible refine Ext.trans ?_ hb6 | with_reducible refine Ext.trans ?_ hb5 | with_reducible refine Ext.trans ?_ hb4 | with_reducible refine Ext.trans ?_ hb3 | with_reducible refine Ext.trans ?_ hb2 | with_reducible refine Ext.trans ?_ hb1 | with_reducible refine Ext.trans ?_ hw)))⟩
      | false =>
        have hs2 := hd (hs.trans hq)
        try dsimp only at hq
        clear hs hQ
        go_wp2_with fail
        refine Calls.mono (impl_droppedBy1 xs[k] nm m bx _ (hx.ext hw)) ?_
        rintro e w1 ⟨rfl, hb1⟩
        simp only [hq]
        go_wp2
        go_roundg (xs.length - (k + 1))
        case rel => exact ⟨k + 1, rfl, hkl, rfl, by ((repeat (first | with_reducible exact Ext.refl _ | with_reducible exact hw | with_reducible exact hb9 | with_reducible exact hb8 | with_reducible exact hb7 | with_reducible exact hb6 | with_reducible exact hb5 | with_reducible exact hb4 | with_reducible exact hb3 | with_reducible exact hb2 | with_reducible exact hb1 | with_reducible refine Ext.alloc ?_ _ | with_reducible refine Ext.drew ?_ | ((with_reducible refine Ext.set ?_ ?_ _); focus (dsimp only; omega)) | with_reducible refine Ext.trans ?_ hb9 | with_reducible refine Ext.trans ?_ hb8 | with_reducible refine Ext.trans ?_ hb7 | with_reducible refine Ext.trans ?_ hb6 | with_reducible refine Ext.trans ?_ hb5 | with_reducible refine Ext.trans ?_ hb4 | with_reducible refine Ext.trans ?_ hb3 | with_reducible refine Ext.trans ?_ hb2 | with_reducible refine Ext.trans ?_ hb1 | with_reducible refine Ext.trans ?_ hw))), hs2.out⟩
        case measure => omega
    · obtain rfl : k = xs.length := by omega
      rw [List.take_length] at hQ
      have hM := fidx_none (fun q : Qry => drpB q m) xs hQ
      go_wp2
      go_ret
      exact ⟨by rw [hM]; rfl, hw⟩

set_option maxHeartbeats 400000 in
theorem slices_IndexFunc_badq (xs : List Qry) (A : Option Addr) (n cap : Nat) (w : World) (hnx : n = xs.length) (hR : Rd encQry w A xs) (hn : n ≤ 1048576)  :
    Calls Tryz.prog 102 #[.slice A n cap, .func (.func 62) #[] #[]] w fun e w' => e = .returned (.int .i64 (fidx (fun q : Qry => !(qryB q)) xs)) ∧ Ext w w' := by
  subst hnx
  go_enter Tryz.func102, Tryz.ntmps102
  go_wp2
  go_loopg [8] xs.length (fun g i wr => ∃ k : Nat, g = xs.length - k ∧ k ≤ xs.length ∧ i = .int .i64 k ∧ Ext w wr ∧ (xs.take k).any (fun q : Qry => !(qryB q)) = false)
  case atStart => exact ⟨0, by omega, by omega, rfl, Ext.refl _, by rw [List.take_zero]; rfl⟩
  case round =>
    obtain ⟨k, hg, hk, rfl, hw, hQ⟩ := hrel
    by_cases hkl : k < xs.length
    · obtain ⟨b, off, hA, hlt, _⟩ := hR k hkl
      subst hA
      obtain ⟨m0, m1, m2, m3, m4⟩ := (hR.ext hw).qry k hkl
      have hs := any_take (fun q : Qry => !(qryB q)) xs k hkl
      rw [hQ, Bool.false_or] at hs
      cases hq : (fun q : Qry => !(qryB q)) xs[k] with
      | true =>
        have hM := fidx_hit (fun q : Qry => !(qryB q)) xs k hkl hq hQ
        try dsimp only at hq
        clear hs hQ
        go_wp2_with fail
        refine Calls.mono (impl_AnyOf1 xs[k] _) ?_
        rintro e w1 ⟨rfl, hb1⟩
        simp only [hq]
        go_wp2
        go_ret
        exact ⟨by rw [hM]; rfl, by ((repeat (first | with_reducible exact Ext.refl _ | with_reducible exact hw | with_reducible exact hb9 | with_reducible exact hb8 | with_reducible exact hb7 | with_reducible exact hb6 | with_reducible exact hb5 | with_reducible exact hb4 | with_reducible exact hb3 | with_reducible exact hb2 | with_reducible exact hb1 | with_reducible refine Ext.alloc ?_ _ | with_reducible refine Ext.drew ?_ | ((with_reducible refine Ext.set ?_ ?_ _); focus (dsimp only; omega)) | with_reducible refine Ext.trans ?_ hb9 | with_reducible refine Ext.trans ?_ hb8 | with_reducible refine Ext.trans ?_ hb7 | with_reducible refine Ext.trans ?_ hb6 | with_reducible refine Ext.trans ?_ hb5 | with_reducible refine Ext.trans ?_ hb4 | with_reducible refine Ext.trans ?_ hb3 | with_reducible refine Ext.trans ?_ hb2 | with_reducible refine Ext.trans ?_ hb1 | with_reducible refine Ext.trans ?_ hw)))⟩
      | false =>
        have hs2 := hd (hs.trans hq)
        try dsimp only at hq
        clear hs hQ
        go_wp2_with fail
        refine Calls.mono (impl_AnyOf1 xs[k] _) ?_
        rintro e w1 ⟨rfl, hb1⟩
        simp only [hq]
        go_wp2
        go_roundg (xs.length - (k + 1))
        case rel => exact ⟨k + 1, rfl, hkl, rfl, by ((repeat (first | with_reducible exact Ext.refl _ | with_reducible exact hw | with_reducible exact hb9 | with_reducible exact hb8 | with_reducible exact hb7 | with_reducible exact hb6 | with_reducible exact hb5 | with_reducible exact hb4 | with_reducible exact hb3 | with_reducible exact hb2 | with_reducible exact hb1 | with_reducible refine Ext.alloc ?_ _ | with_reducible refine Ext.drew ?_ | ((with_reducible refine Ext.set ?_ ?_ _); focus (dsimp only; omega)) | with_reducible refine Ext.trans ?_ hb9 | with_reducible refine Ext.trans ?_ hb8 | with_reducible refine Ext.trans ?_ hb7 | with_reducible refine Ext.trans ?_ hb6 | with_reducible refine Ext.trans ?_ hb5 | with_reducible refine Ext.trans ?_ hb4 | with_reducible refine Ext.trans ?_ hb3 | with_reducible refine Ext.trans ?_ hb2 | with_reducible refine Ext.trans ?_ hb1 | with_reducible refine Ext.trans ?_ hw))), hs2.out⟩
        case measure => omega
    · obtain rfl : k = xs.length := by omega
      rw [List.take_length] at hQ
      have hM := fidx_none (fun q : Qry => !(qryB q)) xs hQ
      go_wp2
      go_ret
      exact ⟨by rw [hM]; rfl, hw⟩

theorem any_fidx (p : Qry → Bool) (xs : List Qry) : xs.any p = decide (fidx p xs ≥ 0) := by
  rw [Bool.eq_iff_iff, decide_eq_true_iff]
  exact (fidx_ge _ xs).symm
theorem slices_ContainsFunc_drops (xs : List Qry) (A : Option Addr) (n cap : Nat) (w : World) (hnx : n = xs.length) (hR : Rd encQry w A xs) (hn : n ≤ 1048576) (nm : ByteArray) (m : Mask) (bx : Nat) (hx : BoxAt w bx #[.string nm, .int .u64 (lo m), .int .u64 (hi m)] 59) :
    Calls Tryz.prog 61 #[.slice A n cap, .func (.func 97) #[] #[.pointer (some ⟨bx, 0, none⟩)]] w fun e w' => e = .returned (.bool (xs.any fun q => drpB q m)) ∧ Ext w w' := by
  subst hnx
  have hI := slices_IndexFunc_drops xs A _ cap w rfl hR hn nm m bx hx
  have hm := any_fidx (fun q : Qry => drpB q m) xs
  generalize fidx (fun q : Qry => drpB q m) xs = q at hm hI
  rw [hm]
  clear hm
  go_enter Tryz.func61, Tryz.ntmps61
  go_wp2_with fail
  refine Calls.mono (hI) ?_
  rintro e w1 ⟨rfl, hb1⟩
  go_wp2
  go_ret
  exact ⟨rfl, by ((repeat (first | with_reducible exact Ext.refl _ | with_reducible exact hw | with_reducible exact hb9 | with_reducible exact hb8 | with_reducible exact hb7 | with_reducible exact hb6 | with_reducible exact hb5 | with_reducible exact hb4 | with_reducible exact hb3 | with_reducible exact hb2 | with_reducible exact hb1 | with_reducible refine Ext.alloc ?_ _ | with_reducible refine Ext.drew ?_ | ((with_reducible refine Ext.set ?_ ?_ _); focus (dsimp only; omega)) | with_reducible refine Ext.trans ?_ hb9 | with_reducible refine Ext.trans ?_ hb8 | with_reducible refine Ext.trans ?_ hb7 | with_reducible refine Ext.trans ?_ hb6 | with_reducible refine Ext.trans ?_ hb5 | with_reducible refine Ext.trans ?_ hb4 | with_reducible refine Ext.trans ?_ hb3 | with_reducible refine Ext.trans ?_ hb2 | with_reducible refine Ext.trans ?_ hb1 | with_reducible refine Ext.trans ?_ hw)))⟩
theorem slices_ContainsFunc_badq (xs : List Qry) (A : Option Addr) (n cap : Nat) (w : World) (hnx : n = xs.length) (hR : Rd encQry w A xs) (hn : n ≤ 1048576) :
    Calls Tryz.prog 61 #[.slice A n cap, .func (.func 62) #[] #[]] w fun e w' => e = .returned (.bool (xs.any fun q => !(qryB q))) ∧ Ext w w' := by
  subst hnx
  have hI := slices_IndexFunc_badq xs A _ cap w rfl hR hn
  have hm := any_fidx (fun q : Qry => !(qryB q)) xs
  generalize fidx (fun q : Qry => !(qryB q)) xs = q at hm hI
  rw [hm]
  clear hm
  go_enter Tryz.func61, Tryz.ntmps61
  go_wp2_with fail
  refine Calls.mono (hI) ?_
  rintro e w1 ⟨rfl, hb1⟩
  go_wp2
  go_ret
  exact ⟨rfl, by ((repeat (first | with_reducible exact Ext.refl _ | with_reducible exact hw | with_reducible exact hb9 | with_reducible exact hb8 | with_reducible exact hb7 | with_reducible exact hb6 | with_reducible exact hb5 | with_reducible exact hb4 | with_reducible exact hb3 | with_reducible exact hb2 | with_reducible exact hb1 | with_reducible refine Ext.alloc ?_ _ | with_reducible refine Ext.drew ?_ | ((with_reducible refine Ext.set ?_ ?_ _); focus (dsimp only; omega)) | with_reducible refine Ext.trans ?_ hb9 | with_reducible refine Ext.trans ?_ hb8 | with_reducible refine Ext.trans ?_ hb7 | with_reducible refine Ext.trans ?_ hb6 | with_reducible refine Ext.trans ?_ hb5 | with_reducible refine Ext.trans ?_ hb4 | with_reducible refine Ext.trans ?_ hb3 | with_reducible refine Ext.trans ?_ hb2 | with_reducible refine Ext.trans ?_ hb1 | with_reducible refine Ext.trans ?_ hw)))⟩
end Go.Proofs.YtciepjdacmjhlaaGreatDoor
set_option linter.unusedVariables false
set_option linter.unusedSimpArgs false
set_option maxRecDepth 100000
namespace Go.Proofs.YtciepjdacmjhlaaGreatDoor
open Go.RowKit
def ansP (ds : List Crd) (qs : List Qry) (i : Nat) : Bool := qs.any fun q => drpB q (ds.getD i Crd.z).m
theorem ansL_def (ds : List Crd) (qs : List Qry) : ansL ds qs = idxTo (ansP ds qs) ds.length := rfl
theorem ansP_at (ds : List Crd) (qs : List Qry) (i : Nat) (h : i < ds.length) : ansP ds qs i = qs.any fun q => drpB q ds[i].m := by
  unfold ansP
  rw [List.getD, List.getElem?_eq_getElem h]
  rfl
theorem info_i64Q : (Tryz.prog.info? 2).map (fun i => (i.zero, i.size, i.bytes)) = some (some (.int .i64 0), encI64.sz, 8) := by kernel_rfl
set_option maxHeartbeats 1000000 in
theorem impl_droppedBy (ds : List Crd) (A : Option Addr) (cap : Nat) (qs : List Qry) (B : Option Addr) (capq : Nat) (w : World) (hR : Rd encCrd w A ds) (hn : ds.length ≤ 1048576) (hQ : Rd encQry w B qs) (hm : qs.length ≤ 1048576) :
    Calls Tryz.prog 54 #[.slice A ds.length cap, .slice B qs.length capq] w fun e w' => ∃ v, e = .returned v ∧ Ow encI64 2 w' w.heap.size v (ansL ds qs) ∧ Ext w w' := by
  rw [ansL_def]
  have hat := fun i h => ansP_at ds qs i h
  have hlen := fun k => idxTo_len (ansP ds qs) k
  generalize ansP ds qs = P at hat hlen ⊢
  go_enter Tryz.func54, Tryz.ntmps54
  go_wp2
  go_loopg [11, 5] ds.length (fun g i v wr => ∃ k : Nat, g = ds.length - k ∧ k ≤ ds.length ∧ i = .int .i64 k ∧ Ext w wr ∧ Ow encI64 2 wr w.heap.size v (idxTo P k))
  case atStart => exact ⟨0, by omega, by omega, rfl, (Ext.refl _).alloc _, by rw [idxTo_zero]; exact Ow.made0 rfl (Nat.le_refl _)⟩
  case round =>
    obtain ⟨k, hg, hk, rfl, hw, hO⟩ := hrel
    by_cases hkl : k < ds.length
    · obtain ⟨b, off, hA, hlt, hr0⟩ := hR k hkl
      subst hA
      clear hr0
      obtain ⟨m0, m1, m2, m3⟩ := (hR.ext hw).crd k hkl
      have hat := hat k hkl
      have hlk := hlen k
      generalize ds[k] = c at m0 m1 m2 hat
      have q1 : (k : Int) < ds.length := by omega
      have hE := (Ext.refl wr).alloc (.cells #[.string c.nm, .int .u64 (lo c.m), .int .u64 (hi c.m)] 59)
      have hX : BoxAt (wr.alloc (.cells #[.string c.nm, .int .u64 (lo c.m), .int .u64 (hi c.m)] 59)) wr.heap.size #[.string c.nm, .int .u64 (lo c.m), .int .u64 (hi c.m)] 59 := BoxAt.new' rfl
      have hc := slices_ContainsFunc_drops qs B qs.length capq _ rfl ((hQ.ext hw).ext hE) hm c.nm c.m wr.heap.size hX
      rw [← hat] at hc
      clear hat hX
      have hw2 := hw.trans hE
      have hO2 := hO.ext hE
      go_wp2_with fail
      refine Calls.mono hc ?_
      rintro e w3 ⟨rfl, hb3⟩
      replace hw2 := hw2.trans hb3
      replace hO2 := hO2.ext hb3
      clear hc hb3 hE hw hO
      cases hp : P k with
      | true =>
        have hv := hd (idxTo_hit P k hp)
        go_wp2_with (at_builtin; refine wpList_push2 (w0 := w) (base := w.heap.size) (xs := idxTo P k) encI64 (by rfl) _ _ 48 (.int .i64 0) 8 (by rfl) Tryz.underlying48 info_i64 (by rfl) ((k : Int)) (by rfl) (by rfl) (by simp) (hO2) ((hw2 : Ext w _).size) (Nat.le_refl _) (hw2) (by omega) (by omega) ?_)
        intro v4 w4 hO4 hb4 hg4 _
        go_wp2
        go_roundg (ds.length - (k + 1))
        case rel => exact ⟨k + 1, rfl, hkl, by first | rfl | simp, hb4, by rw [hv.out]; exact hO4⟩
        case measure => omega
      | false =>
        have hv := hd (idxTo_miss P k hp)
        go_wp2
        go_roundg (ds.length - (k + 1))
        case rel => exact ⟨k + 1, rfl, hkl, by first | rfl | simp, hw2, by rw [hv.out]; exact hO2⟩
        case measure => omega
    · obtain rfl : k = ds.length := by omega
      go_wp2
      go_ret
      exact ⟨_, rfl, hO, hw⟩
set_option maxHeartbeats 2000000 in
theorem spec_l02Answer (ds : List Crd) (A : Option Addr) (cap : Nat) (qs : List Qry) (B : Option Addr) (capq : Nat) (w : World) (hR : Rd encCrd w A ds) (hn : ds.length ≤ 1048576) (hQ : Rd encQry w B qs) (hm : qs.length ≤ 1048576) :
    Calls Tryz.prog 57 #[.slice A ds.length cap, .slice B qs.length capq] w fun e w' => ∃ v, e = .returned v ∧ Ow encI64 2 w' w.heap.size v (ansL ds qs) ∧ Ext w w' := by
  have hx := @ExtOf.cell
  rw [ansL_def]
  have hat := fun i h => ansP_at ds qs i h
  have hlen := fun k => idxTo_len (ansP ds qs) k
  generalize ansP ds qs = P at hat hlen ⊢
  go_enter Tryz.func57, Tryz.ntmps57
  go_wp2
  go_loopg [6, 5] ds.length (fun g i v wr => ∃ k : Nat, g = ds.length - k ∧ k ≤ ds.length ∧ i = .int .i64 k ∧ Ext w wr ∧ Ow encI64 2 wr w.heap.size v (idxTo P k))
  case atStart => exact ⟨0, by omega, by omega, rfl, (Ext.refl _).alloc _, by rw [idxTo_zero]; exact Ow.made0 rfl (Nat.le_refl _)⟩
  case round =>
    obtain ⟨k, hg, hk, rfl, hw, hO⟩ := hrel
    obtain ⟨wo, hwo⟩ : ∃ x, x = wr := ⟨_, rfl⟩
    subst hwo
    by_cases hkl : k < ds.length
    · obtain ⟨b, off, hA, hlt, hr0⟩ := hR k hkl
      subst hA
      clear hr0
      obtain ⟨m0, m1, m2, m3⟩ := (hR.ext hw).crd k hkl
      have hat := hat k hkl
      have hlk := hlen k
      generalize ds[k] = c at m0 m1 m2 hat
      clear m0
      have q1 : (k : Int) < ds.length := by omega
      go_wp2
      go_loopg [7, 5] qs.length (fun g j v wr => ∃ i : Nat, g = qs.length - i ∧ i ≤ qs.length ∧ j = .int .i64 i ∧ Ext wo wr ∧ Ow encI64 2 wr w.heap.size v (idxTo P k) ∧ Hd ((qs.take i).any (fun q => drpB q c.m) = false))
      case atStart => exact ⟨0, by omega, by omega, rfl, Ext.refl _, hO, hd rfl⟩
      case round =>
        obtain ⟨i, hgi, hil, rfl, hwi, hOi, hno⟩ := hrel
        clear hO
        by_cases hii : i < qs.length
        · obtain ⟨bq, oq, hAq, hltq, hrq⟩ := hQ i hii
          subst hAq
          clear hrq
          obtain ⟨y0, y1, y2, y3, y4⟩ := (hQ.ext (hw.trans hwi)).qry i hii
          have hst := any_take (fun q : Qry => drpB q c.m) qs i hii
          have hhit := hd (fun h => any_hit (fun q : Qry => drpB q c.m) qs i hii h)
          rw [hno.out, Bool.false_or] at hst
          have q2 : (i : Int) < qs.length := by omega
          generalize qs[i] = q at y0 y1 y2 y3 hst hhit
          have hdr := fun W (hE : Ext wr W) => spec_l02Drops q c.m bq (oq + i * 4) W (Nat.lt_of_lt_of_le y4 hE.size) (hE.cell y0) (hE.cell y1) (hE.cell y2) (hE.cell y3)
          replace m1 := hwi.cell m1
          replace m2 := hwi.cell m2
          replace m3 := Nat.lt_of_lt_of_le m3 hwi.size
          clear y0 y1 y2 y3
          cases hq : drpB q c.m with
          | true =>
            have hp : P k = true := by rw [hat]; exact hhit.out hq
            have hv := hd (idxTo_hit P k hp)
            rw [hq] at hdr
            clear hst hhit hat hp hno
            go_wp2
            refine wp_region_ext (by kernel_rfl) (by kernel_rfl) ?_
            repeat (first | go_big_quiet_step (((go_at_call 100; with_reducible exact Calls.ext_all (fun W hE => hdr W hE)))) | quiet_step (((go_at_call 100; with_reducible exact Calls.ext_all (fun W hE => hdr W hE)))))
            refine wpQuiet_nil ?_
            intro w3 hq3
            have hb3 := ext_of_class hq3
            clear hq3
            obtain ⟨hc3, hf3, hz3⟩ := bcell3 hb3
            try simp at hz3
            go_wp2_with (at_builtin; refine wpList_push2 (w0 := w) (base := w.heap.size) (xs := idxTo P k) encI64 (by rfl) _ _ 48 (.int .i64 0) 8 (by rfl) Tryz.underlying48 info_i64 (by rfl) ((k : Int)) (by rfl) (by rfl) (by simp) (hOi.ext hb3) (((hw.trans hwi).trans hb3 : Ext w _).size) (Nat.le_refl _) ((hw.trans hwi).trans hb3) (by omega) (by omega) ?_)
            intro v4 w4 hO4 hb4 hg4 _
            go_wp2
            go_roundg (ds.length - (k + 1))
            case rel => exact ⟨k + 1, rfl, hkl, by first | rfl | simp, hb4, by rw [hv.out]; exact hO4⟩
            case measure => omega
          | false =>
            have hst2 := hd (hst.trans hq)
            rw [hq] at hdr
            clear hst hhit hat hno
            go_wp2
            refine wp_region_ext (by kernel_rfl) (by kernel_rfl) ?_
            repeat (first | go_big_quiet_step (((go_at_call 100; with_reducible exact Calls.ext_all (fun W hE => hdr W hE)))) | quiet_step (((go_at_call 100; with_reducible exact Calls.ext_all (fun W hE => hdr W hE)))))
            refine wpQuiet_nil ?_
            intro w3 hq3
            have hb3 := ext_of_class hq3
            clear hq3
            obtain ⟨hc3, hf3, hz3⟩ := bcell3 hb3
            try simp at hz3
            go_wp2
            go_roundg (qs.length - (i + 1))
            case rel => exact ⟨i + 1, rfl, hii, by first | rfl | simp, hwi.trans hb3, hOi.ext hb3, hst2⟩
            case measure => omega
        · obtain rfl : i = qs.length := by omega
          have hp : P k = false := by rw [hat]; have h := hno.out; rwa [List.take_length] at h
          have hv := hd (idxTo_miss P k hp)
          clear hat hno hp
          go_wp2
          go_roundg (ds.length - (k + 1))
          case rel => exact ⟨k + 1, rfl, hkl, by first | rfl | simp, hw.trans hwi, by rw [hv.out]; exact hOi⟩
          case measure => omega
    · obtain rfl : k = ds.length := by omega
      go_wp2
      go_ret
      exact ⟨_, rfl, hO, hw⟩
theorem impl_ValidQuery (q : Qry) (w : World) :
    Calls Tryz.prog 22 #[.agg #[.int .u64 (lo q.al), .int .u64 (hi q.al), .int .u64 (lo q.no), .int .u64 (hi q.no)]] w fun e w' => e = .returned (.bool (qryB q)) ∧ Ext w w' := by
  have h1 := fun W => impl_isQuery q W
  go_enter Tryz.func22, Tryz.ntmps22
  go_wp2_with fail
  refine Calls.mono (h1 _) ?_
  rintro e w1 ⟨rfl, hb1⟩
  go_wp2
  go_ret
  exact ⟨rfl, ((Ext.refl w).alloc _).trans hb1⟩
theorem impl_DropsCard (q : Qry) (hq : qryB q = true) (m : Mask) (hm : isMaskB m = true) (w : World) :
    Calls Tryz.prog 27 #[.agg #[.int .u64 (lo q.al), .int .u64 (hi q.al), .int .u64 (lo q.no), .int .u64 (hi q.no)], .agg #[.int .u64 (lo m), .int .u64 (hi m)]] w fun e w' => e = .returned (.tuple #[.bool (drpB q m), .int .i64 0]) ∧ Ext w w' := by
  have h1 := fun W => impl_isQuery q W
  rw [hq] at h1
  have h2 := fun W => impl_isMask m W
  rw [hm] at h2
  have h3 := fun W => impl_drops q m W
  have hX : BoxAt ((w.alloc (.cells #[.int .u64 (lo q.al), .int .u64 (hi q.al), .int .u64 (lo q.no), .int .u64 (hi q.no)] 44)).alloc (.cells #[.int .u64 (lo m), .int .u64 (hi m)] 42)) w.heap.size #[.int .u64 (lo q.al), .int .u64 (hi q.al), .int .u64 (lo q.no), .int .u64 (hi q.no)] 44 := (BoxAt.new' rfl).alloc _
  have hY : BoxAt ((w.alloc (.cells #[.int .u64 (lo q.al), .int .u64 (hi q.al), .int .u64 (lo q.no), .int .u64 (hi q.no)] 44)).alloc (.cells #[.int .u64 (lo m), .int .u64 (hi m)] 42)) (w.heap.size + 1) #[.int .u64 (lo m), .int .u64 (hi m)] 42 := BoxAt.new' (by simp)
  go_enter Tryz.func27, Tryz.ntmps27
  go_wp2_with fail
  refine Calls.mono (h1 _) ?_
  rintro e w1 ⟨rfl, hb1⟩
  replace hX := hX.ext hb1
  replace hY := hY.ext hb1
  have y0 : w1.cell? ⟨w.heap.size + 1, 0, none⟩ = some (.int .u64 (lo m)) := hY.cell 0
  have y1 : w1.cell? ⟨w.heap.size + 1, 1, none⟩ = some (.int .u64 (hi m)) := hY.cell 1
  have ly := hY.lt
  have l0 : w.heap.size < w1.heap.size := hX.lt
  go_wp2_with fail
  refine Calls.mono (h2 _) ?_
  rintro e w2 ⟨rfl, hb2⟩
  replace hX := hX.ext hb2
  replace hY := hY.ext hb2
  clear y0 y1 ly l0
  have x0 : w2.cell? ⟨w.heap.size, 0, none⟩ = some (.int .u64 (lo q.al)) := hX.cell 0
  have x1 : w2.cell? ⟨w.heap.size, 1, none⟩ = some (.int .u64 (hi q.al)) := hX.cell 1
  have x2 : w2.cell? ⟨w.heap.size, 2, none⟩ = some (.int .u64 (lo q.no)) := hX.cell 2
  have x3 : w2.cell? ⟨w.heap.size, 3, none⟩ = some (.int .u64 (hi q.no)) := hX.cell 3
  have lx := hX.lt
  have y0 : w2.cell? ⟨w.heap.size + 1, 0, none⟩ = some (.int .u64 (lo m)) := hY.cell 0
  have y1 : w2.cell? ⟨w.heap.size + 1, 1, none⟩ = some (.int .u64 (hi m)) := hY.cell 1
  have ly := hY.lt
  go_wp2_with fail
  refine Calls.mono (h3 _) ?_
  rintro e w3 ⟨rfl, hb3⟩
  go_wp2
  go_ret2
  exact ⟨rfl, ((((Ext.refl w).alloc _).alloc _).trans hb1 |>.trans hb2).trans hb3⟩
theorem spec_HolesOf (f : Fld) (hf : fldB f = true) (hin : FldIn f) (w : World) :
    Calls Tryz.prog 18 #[.agg #[.string f.nm, .int .i8 f.kd, .int .i16 f.st, .int .i16 f.sz]] w fun e w' => e = .returned (.tuple #[.int .i64 (manyF f.kd f.sz), .int .i64 0]) ∧ Ext w w' := by
  have h1 := fun b o W h => l01Field_in f hin b o W h
  rw [hf] at h1
  obtain ⟨⟨_, _, _, _⟩, _⟩ := hin
  have h2 := fun b o W h => spec_l01Width b o f (by omega) (by omega) W h
  have hX : BoxAt (w.alloc (.cells #[.string f.nm, .int .i8 f.kd, .int .i16 f.st, .int .i16 f.sz] 36)) w.heap.size #[.string f.nm, .int .i8 f.kd, .int .i16 f.st, .int .i16 f.sz] 36 := BoxAt.new' rfl
  have hF : FldAt (w.alloc (.cells #[.string f.nm, .int .i8 f.kd, .int .i16 f.st, .int .i16 f.sz] 36)) w.heap.size 0 f := ⟨hX.cell 0, hX.cell 1, hX.cell 2, hX.cell 3⟩
  go_enter Tryz.func18, Tryz.ntmps18
  go_wp2_with fail
  refine Calls.mono (h1 _ _ _ hF) ?_
  rintro e w1 ⟨rfl, hb1⟩
  go_wp2_with fail
  refine Calls.mono (h2 _ _ _ (hF.ext hb1)) ?_
  rintro e w2 ⟨rfl, hb2⟩
  go_wp2
  go_ret2
  exact ⟨rfl, (((Ext.refl w).alloc _).trans hb1).trans hb2⟩
theorem impl_AnswerOf (ds : List Crd) (A : Option Addr) (cap : Nat) (q : Qry) (hq : qryB q = true) (hdk : deckB ds = true) (w : World) (hR : Rd encCrd w A ds) (hcap : ds.length ≤ cap) (hn : ds.length ≤ 1048576) (hok : ∀ c ∈ ds, CrdIn c) :
    Calls Tryz.prog 19 #[.slice A ds.length cap, .agg #[.int .u64 (lo q.al), .int .u64 (hi q.al), .int .u64 (lo q.no), .int .u64 (hi q.no)]] w fun e w' => ∃ v, e = .returned (.tuple #[v, .int .i64 0]) ∧ Ow encI64 2 w' w.heap.size v (ansL ds [q]) ∧ Ext w w' := by
  have h1 := fun W hE => impl_isDeck ds A cap W (hR.ext hE) hcap hn hok
  rw [hdk] at h1
  have h2 := fun W => impl_isQuery q W
  rw [hq] at h2
  have hX : BoxAt (w.alloc (.cells #[.int .u64 (lo q.al), .int .u64 (hi q.al), .int .u64 (lo q.no), .int .u64 (hi q.no)] 44)) w.heap.size #[.int .u64 (lo q.al), .int .u64 (hi q.al), .int .u64 (lo q.no), .int .u64 (hi q.no)] 44 := BoxAt.new' rfl
  have hE := (Ext.refl w).alloc (.cells #[.int .u64 (lo q.al), .int .u64 (hi q.al), .int .u64 (lo q.no), .int .u64 (hi q.no)] 44)
  go_enter Tryz.func19, Tryz.ntmps19
  go_wp2_with fail
  refine Calls.mono (h1 _ hE) ?_
  rintro e w1 ⟨rfl, hb1⟩
  replace hX := hX.ext hb1
  replace hE := hE.trans hb1
  have x0 : w1.cell? ⟨w.heap.size, 0, none⟩ = some (.int .u64 (lo q.al)) := hX.cell 0
  have x1 : w1.cell? ⟨w.heap.size, 1, none⟩ = some (.int .u64 (hi q.al)) := hX.cell 1
  have x2 : w1.cell? ⟨w.heap.size, 2, none⟩ = some (.int .u64 (lo q.no)) := hX.cell 2
  have x3 : w1.cell? ⟨w.heap.size, 3, none⟩ = some (.int .u64 (hi q.no)) := hX.cell 3
  have lx := hX.lt
  go_wp2_with fail
  refine Calls.mono (h2 _) ?_
  rintro e w2 ⟨rfl, hb2⟩
  replace hX := hX.ext hb2
  replace hE := hE.trans hb2
  clear x0 x1 x2 x3 lx hb1 hb2
  have x0 : w2.cell? ⟨w.heap.size, 0, none⟩ = some (.int .u64 (lo q.al)) := hX.cell 0
  have x1 : w2.cell? ⟨w.heap.size, 1, none⟩ = some (.int .u64 (hi q.al)) := hX.cell 1
  have x2 : w2.cell? ⟨w.heap.size, 2, none⟩ = some (.int .u64 (lo q.no)) := hX.cell 2
  have x3 : w2.cell? ⟨w.heap.size, 3, none⟩ = some (.int .u64 (hi q.no)) := hX.cell 3
  have lx := hX.lt
  have hQ2 : Rd encQry (w2.alloc (.cells #[.int .u64 (lo q.al), .int .u64 (hi q.al), .int .u64 (lo q.no), .int .u64 (hi q.no)] 44)) (some ⟨w2.heap.size, 0, none⟩) [q] := Rd.lit encQry w2 [q] _ _ (by simp) rfl
  have hE3 := hE.alloc (.cells #[.int .u64 (lo q.al), .int .u64 (hi q.al), .int .u64 (lo q.no), .int .u64 (hi q.no)] 44)
  have hdb := impl_droppedBy ds A cap [q] (some ⟨w2.heap.size, 0, none⟩) 1 _ (hR.ext hE3) hn hQ2 (by simp)
  go_wp2_with fail
  refine Calls.mono hdb ?_
  rintro e w3 ⟨v, rfl, hO, hb3⟩
  go_wp2
  refine bodyPost_ret (v := .tuple #[v, .int .i64 0]) (by simp [results, Tryz.results19, go_sem]) rfl ⟨v, rfl, hO.lower hE3.size, hE3.trans hb3⟩
theorem spec_AnswerOf (ds : List Crd) (A : Option Addr) (cap : Nat) (q : Qry) (hq : qryB q = true) (hdk : deckB ds = true) (w : World) (hR : Rd encCrd w A ds) (hn : ds.length ≤ 1048576) (hok : ∀ c ∈ ds, CrdIn c) :
    Calls Tryz.prog 20 #[.slice A ds.length cap, .agg #[.int .u64 (lo q.al), .int .u64 (hi q.al), .int .u64 (lo q.no), .int .u64 (hi q.no)]] w fun e w' => ∃ v, e = .returned (.tuple #[v, .int .i64 0]) ∧ Ow encI64 2 w' w.heap.size v (ansL ds [q]) ∧ Ext w w' := by
  have h1 := fun W hE => spec_l02Ok ds A cap W (hR.ext hE) hn hok
  rw [hdk] at h1
  have hX : BoxAt (w.alloc (.cells #[.int .u64 (lo q.al), .int .u64 (hi q.al), .int .u64 (lo q.no), .int .u64 (hi q.no)] 44)) w.heap.size #[.int .u64 (lo q.al), .int .u64 (hi q.al), .int .u64 (lo q.no), .int .u64 (hi q.no)] 44 := BoxAt.new' rfl
  have hE := (Ext.refl w).alloc (.cells #[.int .u64 (lo q.al), .int .u64 (hi q.al), .int .u64 (lo q.no), .int .u64 (hi q.no)] 44)
  go_enter Tryz.func20, Tryz.ntmps20
  go_wp2_with fail
  refine Calls.mono (h1 _ hE) ?_
  rintro e w1 ⟨rfl, hb1⟩
  replace hX := hX.ext hb1
  replace hE := hE.trans hb1
  have h2 := spec_l02Query q w.heap.size 0 w1 hX.lt (hX.cell 0) (hX.cell 1) (hX.cell 2) (hX.cell 3)
  rw [hq] at h2
  go_wp2_with fail
  refine Calls.mono (h2) ?_
  rintro e w2 ⟨rfl, hb2⟩
  replace hX := hX.ext hb2
  replace hE := hE.trans hb2
  clear hb1 hb2
  have x0 : w2.cell? ⟨w.heap.size, 0, none⟩ = some (.int .u64 (lo q.al)) := hX.cell 0
  have x1 : w2.cell? ⟨w.heap.size, 1, none⟩ = some (.int .u64 (hi q.al)) := hX.cell 1
  have x2 : w2.cell? ⟨w.heap.size, 2, none⟩ = some (.int .u64 (lo q.no)) := hX.cell 2
  have x3 : w2.cell? ⟨w.heap.size, 3, none⟩ = some (.int .u64 (hi q.no)) := hX.cell 3
  have lx := hX.lt
  have hQ2 : Rd encQry (w2.alloc (.cells #[.int .u64 (lo q.al), .int .u64 (hi q.al), .int .u64 (lo q.no), .int .u64 (hi q.no)] 44)) (some ⟨w2.heap.size, 0, none⟩) [q] := Rd.lit encQry w2 [q] _ _ (by simp) rfl
  have hE3 := hE.alloc (.cells #[.int .u64 (lo q.al), .int .u64 (hi q.al), .int .u64 (lo q.no), .int .u64 (hi q.no)] 44)
  have hdb := spec_l02Answer ds A cap [q] (some ⟨w2.heap.size, 0, none⟩) 1 _ (hR.ext hE3) hn hQ2 (by simp)
  go_wp2_with fail
  refine Calls.mono hdb ?_
  rintro e w3 ⟨v, rfl, hO, hb3⟩
  go_wp2
  refine bodyPost_ret (v := .tuple #[v, .int .i64 0]) (by simp [results, Tryz.results20, go_sem]) rfl ⟨v, rfl, hO.lower hE3.size, hE3.trans hb3⟩
theorem impl_AnyOf (ds : List Crd) (A : Option Addr) (cap : Nat) (qs : List Qry) (B : Option Addr) (capq : Nat) (hq : (qs.any fun q => !(qryB q)) = false) (hdk : deckB ds = true) (w : World) (hR : Rd encCrd w A ds) (hcap : ds.length ≤ cap) (hn : ds.length ≤ 1048576) (hok : ∀ c ∈ ds, CrdIn c) (hQ : Rd encQry w B qs) (hm : qs.length ≤ 1048576) :
    Calls Tryz.prog 25 #[.slice A ds.length cap, .slice B qs.length capq] w fun e w' => ∃ v, e = .returned (.tuple #[v, .int .i64 0]) ∧ Ow encI64 2 w' w.heap.size v (ansL ds qs) ∧ Ext w w' := by
  have h1 := fun W hE => impl_isDeck ds A cap W (hR.ext hE) hcap hn hok
  rw [hdk] at h1
  have h2 := fun W hE => slices_ContainsFunc_badq qs B qs.length capq W rfl (hQ.ext hE) hm
  rw [hq] at h2
  go_enter Tryz.func25, Tryz.ntmps25
  go_wp2_with fail
  refine Calls.mono (h1 _ (Ext.refl _)) ?_
  rintro e w1 ⟨rfl, hb1⟩
  go_wp2_with fail
  refine Calls.mono (h2 _ hb1) ?_
  rintro e w2 ⟨rfl, hb2⟩
  have hE := hb1.trans hb2
  have hdb := impl_droppedBy ds A cap qs B capq w2 (hR.ext hE) hn (hQ.ext hE) hm
  go_wp2_with fail
  refine Calls.mono hdb ?_
  rintro e w3 ⟨v, rfl, hO, hb3⟩
  go_wp2
  refine bodyPost_ret (v := .tuple #[v, .int .i64 0]) (by simp [results, Tryz.results25, go_sem]) rfl ⟨v, rfl, hO.lower hE.size, hE.trans hb3⟩
end Go.Proofs.YtciepjdacmjhlaaGreatDoor
set_option linter.unusedVariables false
set_option linter.unusedSimpArgs false
set_option maxRecDepth 100000
namespace Go.Proofs.YtciepjdacmjhlaaGreatDoor
open Go.RowKit
/-- Has a list a number? -/
def hasV (is : List Int) (v : Int) : Bool := is.contains v
set_option maxHeartbeats 400000 in
theorem spec_l05InQ (is : List Int) (A : Option Addr) (cap : Nat) (v : Int) (w : World) (hR : Rd encI64 w A is) (hn : is.length ≤ 1048576) :
    Calls Tryz.prog 67 #[.slice A is.length cap, .int .i64 v] w fun e w' => e = .returned (.bool (hasV is v)) ∧ Ext w w' := by
  rw [show hasV is v = is.any (fun y => y == v) by unfold hasV; rw [Bool.eq_iff_iff, List.contains_iff_mem, List.any_eq_true]; simp]
  go_enter Tryz.func67, Tryz.ntmps67
  go_wp2
  go_loopg [5] is.length (fun g i wr => ∃ k : Nat, g = is.length - k ∧ k ≤ is.length ∧ i = .int .i64 k ∧ Ext w wr ∧ (is.take k).any (fun y => y == v) = false)
  case atStart => exact ⟨0, by omega, by omega, rfl, Ext.refl _, by rw [List.take_zero]; rfl⟩
  case round =>
    obtain ⟨k, hg, hk, rfl, hw, hQ⟩ := hrel
    by_cases hkl : k < is.length
    · obtain ⟨b, off, hA, hlt, _⟩ := hR k hkl
      subst hA
      have m0 := (hR.ext hw).i64 k hkl
      have hs := any_take (fun y => y == v) is k hkl
      rw [hQ, Bool.false_or] at hs
      by_cases q : is[k] = v
      · have hv := hd (show is.any (fun y => y == v) = true from any_hit _ is k hkl (by simp [q]))
        clear hs hQ
        go_wp2
        go_ret
        exact ⟨by rw [hv.out]; rfl, hw⟩
      · have hs2 := hd (hs.trans (show (is[k] == v) = false by simp [q]))
        clear hs hQ
        go_wp2
        go_roundg (is.length - (k + 1))
        case rel => exact ⟨k + 1, rfl, hkl, rfl, hw, hs2.out⟩
        case measure => omega
    · obtain rfl : k = is.length := by omega
      rw [List.take_length] at hQ
      have hv := hd hQ
      clear hQ
      go_wp2
      go_ret
      exact ⟨by rw [hv.out]; rfl, hw⟩
theorem spec_A2HasQ (is : List Int) (A : Option Addr) (cap : Nat) (v : Int) (w : World) (hR : Rd encI64 w A is) (hn : is.length ≤ 1048576) :
    Calls Tryz.prog 28 #[.slice A is.length cap, .int .i64 v] w fun e w' => e = .returned (.bool (hasV is v)) ∧ Ext w w' := by
  go_enter Tryz.func28, Tryz.ntmps28
  go_wp2_with fail
  refine Calls.mono (spec_l05InQ is A cap v _ hR hn) ?_
  rintro e w1 ⟨rfl, hb1⟩
  go_wp2
  go_ret
  exact ⟨rfl, hb1⟩
set_option maxHeartbeats 400000 in
theorem spec_l00Same (is : List Int) (A B : Option Addr) (cap cap' : Nat) (w : World) (hR : Rd encI64 w A is) (hS : Rd encI64 w B is) (hn : is.length ≤ 1048576) :
    Calls Tryz.prog 58 #[.slice A is.length cap, .slice B is.length cap'] w fun e w' => e = .returned (.bool true) ∧ Ext w w' := by
  have hx := @ExtOf.cell
  go_enter Tryz.func58, Tryz.ntmps58
  go_wp2
  go_loopg [5] is.length (fun g i wr => ∃ k : Nat, g = is.length - k ∧ k ≤ is.length ∧ i = .int .i64 k ∧ Ext w wr)
  case atStart => exact ⟨0, by omega, by omega, rfl, Ext.refl _⟩
  case round =>
    obtain ⟨k, hg, hk, rfl, hw⟩ := hrel
    by_cases hkl : k < is.length
    · obtain ⟨b, off, hA, hlt, hr1⟩ := hR k hkl
      obtain ⟨c, off', hB, hlt', hr2⟩ := hS k hkl
      subst hA hB
      clear hr1 hr2
      have m0 := (hR.ext hw).i64 k hkl
      have m1 := (hS.ext hw).i64 k hkl
      have l0 := Nat.lt_of_lt_of_le hlt hw.size
      have l1 := Nat.lt_of_lt_of_le hlt' hw.size
      generalize is[k] = x at m0 m1
      have q1 : (k : Int) < is.length := by omega
      go_wp2
      refine wp_region_ext (by kernel_rfl) (by kernel_rfl) ?_
      repeat (first | go_big_quiet_step (fail) | quiet_step (fail))
      refine wpQuiet_nil ?_
      intro w3 hq3
      have hb3 := ext_of_class hq3
      clear hq3
      obtain ⟨hc3, hf3, hz3⟩ := bcell3 hb3
      try simp at hz3
      go_wp2
      go_roundg (is.length - (k + 1))
      case rel => exact ⟨k + 1, rfl, hkl, by first | rfl | simp, hw.trans hb3⟩
      case measure => omega
    · obtain rfl : k = is.length := by omega
      go_wp2
      go_ret
      exact ⟨rfl, hw⟩
theorem spec_A2SameQ (is : List Int) (A B : Option Addr) (cap cap' : Nat) (w : World) (hR : Rd encI64 w A is) (hS : Rd encI64 w B is) (hn : is.length ≤ 1048576) :
    Calls Tryz.prog 21 #[.slice A is.length cap, .slice B is.length cap'] w fun e w' => e = .returned (.bool true) ∧ Ext w w' := by
  go_enter Tryz.func21, Tryz.ntmps21
  go_wp2_with fail
  refine Calls.mono (spec_l00Same is A B cap cap' _ hR hS hn) ?_
  rintro e w1 ⟨rfl, hb1⟩
  go_wp2
  go_ret
  exact ⟨rfl, hb1⟩
set_option maxHeartbeats 1000000 in
theorem impl_PassesOf (q : Qry) (hq : qryB q = true) (w : World) :
    Calls Tryz.prog 17 #[.agg #[.int .u64 (lo q.al), .int .u64 (hi q.al), .int .u64 (lo q.no), .int .u64 (hi q.no)]] w fun e w' => e = .returned (.tuple #[.int .i64 (mcount q.al + mcount q.no), .int .i64 0]) ∧ Ext w w' := by
  have hx := @ExtOf.cell
  have h1 := fun W => impl_isQuery q W
  rw [hq] at h1
  have c1 := fun W => impl_CountHoles q.al W
  have c2 := fun W => impl_CountHoles q.no W
  have g1 := mcount_ge q.al
  have g2 := mcount_ge q.no
  have g3 := mcount_le q.al
  have g4 := mcount_le q.no
  generalize mcount q.al = na at *
  generalize mcount q.no = nb at *
  have e1 : IntKind.i64.wrap (na + nb) = na + nb := IntWalk.i64_in _ (by omega)
  have hX : BoxAt (w.alloc (.cells #[.int .u64 (lo q.al), .int .u64 (hi q.al), .int .u64 (lo q.no), .int .u64 (hi q.no)] 44)) w.heap.size #[.int .u64 (lo q.al), .int .u64 (hi q.al), .int .u64 (lo q.no), .int .u64 (hi q.no)] 44 := BoxAt.new' rfl
  go_enter Tryz.func17, Tryz.ntmps17
  go_wp2_with fail
  refine Calls.mono (h1 _) ?_
  rintro e w1 ⟨rfl, hb1⟩
  replace hX := hX.ext hb1
  have x0 : w1.cell? ⟨w.heap.size, 0, none⟩ = some (.int .u64 (lo q.al)) := hX.cell 0
  have x1 : w1.cell? ⟨w.heap.size, 1, none⟩ = some (.int .u64 (hi q.al)) := hX.cell 1
  have x2 : w1.cell? ⟨w.heap.size, 2, none⟩ = some (.int .u64 (lo q.no)) := hX.cell 2
  have x3 : w1.cell? ⟨w.heap.size, 3, none⟩ = some (.int .u64 (hi q.no)) := hX.cell 3
  have lx := hX.lt
  go_wp2
  refine wp_region_ext (by kernel_rfl) (by kernel_rfl) ?_
  repeat (first | go_big_quiet_step ((first | (go_at_call 51; with_reducible exact Calls.ext_of (c1 _)) | (go_at_call 51; with_reducible exact Calls.ext_of (c2 _)))) | quiet_step ((first | (go_at_call 51; with_reducible exact Calls.ext_of (c1 _)) | (go_at_call 51; with_reducible exact Calls.ext_of (c2 _)))))
  refine wpQuiet_nil ?_
  intro w2 hq2
  have hb2 := ext_of_class hq2
  clear hq2
  obtain ⟨hc2, hf2, hz2⟩ := bcell3 hb2
  try simp at hz2
  go_wp2
  go_ret2
  exact ⟨rfl, (((Ext.refl w).alloc _).trans hb1).trans hb2⟩
set_option maxHeartbeats 2000000 in
theorem impl_QueryFor (f : Fld) (hf : fldB f = true) (hin : FldIn f) (v : Int) (v0 : 0 ≤ v) (v1 : v ≤ mostF f) (w : World) :
    Calls Tryz.prog 15 #[.agg #[.string f.nm, .int .i8 f.kd, .int .i16 f.st, .int .i16 f.sz], .int .i64 v] w fun e w' => e = .returned (.tuple #[.agg #[.int .u64 (lo (qryFor f v).al), .int .u64 (hi (qryFor f v).al), .int .u64 (lo (qryFor f v).no), .int .u64 (hi (qryFor f v).no)], .int .i64 0]) ∧ Ext w w' := by
  have hx := @ExtOf.cell
  have h1 := fun W => impl_EncodeField f hf hin v v0 v1 W
  have h2 : ∀ W, Calls Tryz.prog 46 #[.agg #[.string f.nm, .int .i8 f.kd, .int .i16 f.st, .int .i16 f.sz]] W fun e w' => e = .returned (.agg #[.int .u64 (lo (partF f)), .int .u64 (hi (partF f))]) ∧ Ext W w' := fun W => impl_part f.nm f.kd f.st f.sz hf W
  have h3 := fun W => impl_LessMask (partF f) (codeF f v) W
  unfold qryFor
  dsimp only
  generalize mless (partF f) (codeF f v) = nn at h3 ⊢
  generalize codeF f v = cc at h1 h3 ⊢
  generalize partF f = pp at h2 h3
  have hX : BoxAt ((w.alloc (.cells #[.string f.nm, .int .i8 f.kd, .int .i16 f.st, .int .i16 f.sz] 36)).alloc (.cells #[.int .u64 0, .int .u64 0, .int .u64 0, .int .u64 0] 44)) w.heap.size #[.string f.nm, .int .i8 f.kd, .int .i16 f.st, .int .i16 f.sz] 36 := (BoxAt.new' rfl).alloc _
  have hY : BoxAt ((w.alloc (.cells #[.string f.nm, .int .i8 f.kd, .int .i16 f.st, .int .i16 f.sz] 36)).alloc (.cells #[.int .u64 0, .int .u64 0, .int .u64 0, .int .u64 0] 44)) (w.heap.size + 1) #[.int .u64 0, .int .u64 0, .int .u64 0, .int .u64 0] 44 := BoxAt.new' (by simp)
  have hE := ((Ext.refl w).alloc (.cells #[.string f.nm, .int .i8 f.kd, .int .i16 f.st, .int .i16 f.sz] 36)).alloc (.cells #[.int .u64 0, .int .u64 0, .int .u64 0, .int .u64 0] 44)
  go_enter Tryz.func15, Tryz.ntmps15
  go_wp2_with fail
  refine Calls.mono (h1 _) ?_
  rintro e w1 ⟨rfl, hb1⟩
  replace hX := hX.ext hb1
  replace hY := hY.ext hb1
  replace hE := hE.trans hb1
  clear hb1 h1
  have x0 : w1.cell? ⟨w.heap.size, 0, none⟩ = some (.string f.nm) := hX.cell 0
  have x1 : w1.cell? ⟨w.heap.size, 1, none⟩ = some (.int .i8 f.kd) := hX.cell 1
  have x2 : w1.cell? ⟨w.heap.size, 2, none⟩ = some (.int .i16 f.st) := hX.cell 2
  have x3 : w1.cell? ⟨w.heap.size, 3, none⟩ = some (.int .i16 f.sz) := hX.cell 3
  have lx := hX.lt
  go_wp2
  refine wp_region_ext_tail 6 6 (by kernel_rfl) (by kernel_rfl) (by intro d _ _ _ _ h; cases d <;> exact h) ?_
  simp only [List.take_succ_cons, List.take_zero, List.drop_succ_cons, List.drop_zero]
  repeat (first | go_big_quiet_step ((first | (go_at_call 46; with_reducible exact Calls.ext_of (h2 _)) | (go_at_call 45; with_reducible exact Calls.ext_of (h3 _)))) | quiet_step ((first | (go_at_call 46; with_reducible exact Calls.ext_of (h2 _)) | (go_at_call 45; with_reducible exact Calls.ext_of (h3 _)))))
  refine wpQuiet_nil ?_
  intro w2 hq2
  have hb2 := ext_of_class hq2
  clear hq2
  obtain ⟨hc2, hf2, hz2⟩ := bcell3 hb2
  try simp at hz2
  replace hY := (hY.alloc (.cells #[.int .u64 (lo cc), .int .u64 (hi cc)] 42)).ext hb2
  replace hE := (hE.alloc (.cells #[.int .u64 (lo cc), .int .u64 (hi cc)] 42)).trans hb2
  clear hc2 hf2 hb2 x0 x1 x2 x3 lx hX h2 h3
  have ry0 : w2.cell? ⟨w.heap.size + 1, 0, none⟩ = some (.int .u64 0) := hY.cell 0
  have ry1 : w2.cell? ⟨w.heap.size + 1, 1, none⟩ = some (.int .u64 0) := hY.cell 1
  have ry2 : w2.cell? ⟨w.heap.size + 1, 2, none⟩ = some (.int .u64 0) := hY.cell 2
  have ry3 : w2.cell? ⟨w.heap.size + 1, 3, none⟩ = some (.int .u64 0) := hY.cell 3
  have rf0 := hY.frozen 0
  have rf1 := hY.frozen 1
  have rf2 := hY.frozen 2
  have rf3 := hY.frozen 3
  have rl := hY.lt
  go_wp2
  have rYf := ((((hY.set 0 (.int .u64 (lo cc))).set 1 (.int .u64 (hi cc))).set 2 (.int .u64 (lo nn))).set 3 (.int .u64 (hi nn)))
  clear ry0 rf0 ry1 rf1 ry2 rf2 ry3 rf3
  have rc0 : World.cell? _ ⟨w.heap.size + 1, 0, none⟩ = some (.int .u64 (lo cc)) := rYf.cell 0
  have rc1 : World.cell? _ ⟨w.heap.size + 1, 1, none⟩ = some (.int .u64 (hi cc)) := rYf.cell 1
  have rc2 : World.cell? _ ⟨w.heap.size + 1, 2, none⟩ = some (.int .u64 (lo nn)) := rYf.cell 2
  have rc3 : World.cell? _ ⟨w.heap.size + 1, 3, none⟩ = some (.int .u64 (hi nn)) := rYf.cell 3
  refine bodyPost_ret (v := .tuple #[.agg #[.int .u64 (lo cc), .int .u64 (hi cc), .int .u64 (lo nn), .int .u64 (hi nn)], .int .i64 0]) (by simp [results, Tryz.results15, go_sem, rc0, rc1, rc2, rc3]) rfl ⟨rfl, ?_⟩
  exact Ext.set (by dsimp only; omega) (Ext.set (by dsimp only; omega) (Ext.set (by dsimp only; omega) (Ext.set (by dsimp only; omega) (hE) _) _) _) _
set_option maxHeartbeats 2000000 in
theorem spec_QueryFor (f : Fld) (hf : fldB f = true) (hin : FldIn f) (v : Int) (v0 : 0 ≤ v) (v1 : v ≤ mostF f) (w : World) :
    Calls Tryz.prog 16 #[.agg #[.string f.nm, .int .i8 f.kd, .int .i16 f.st, .int .i16 f.sz], .int .i64 v] w fun e w' => e = .returned (.tuple #[.agg #[.int .u64 (lo (qryFor f v).al), .int .u64 (hi (qryFor f v).al), .int .u64 (lo (qryFor f v).no), .int .u64 (hi (qryFor f v).no)], .int .i64 0]) ∧ Ext w w' := by
  have hx := @ExtOf.cell
  have h1 := fun W => spec_EncodeField f hf hin v v0 v1 W
  have h2 := fun b o W hF => spec_l01Part f hf b o W hF
  have h3 := fun W => spec_l01Less (partF f) (codeF f v) W
  unfold qryFor
  dsimp only
  generalize mless (partF f) (codeF f v) = nn at h3 ⊢
  generalize codeF f v = cc at h1 h3 ⊢
  generalize partF f = pp at h2 h3
  have hX : BoxAt ((w.alloc (.cells #[.string f.nm, .int .i8 f.kd, .int .i16 f.st, .int .i16 f.sz] 36)).alloc (.cells #[.int .u64 0, .int .u64 0, .int .u64 0, .int .u64 0] 44)) w.heap.size #[.string f.nm, .int .i8 f.kd, .int .i16 f.st, .int .i16 f.sz] 36 := (BoxAt.new' rfl).alloc _
  have hY : BoxAt ((w.alloc (.cells #[.string f.nm, .int .i8 f.kd, .int .i16 f.st, .int .i16 f.sz] 36)).alloc (.cells #[.int .u64 0, .int .u64 0, .int .u64 0, .int .u64 0] 44)) (w.heap.size + 1) #[.int .u64 0, .int .u64 0, .int .u64 0, .int .u64 0] 44 := BoxAt.new' (by simp)
  have hE := ((Ext.refl w).alloc (.cells #[.string f.nm, .int .i8 f.kd, .int .i16 f.st, .int .i16 f.sz] 36)).alloc (.cells #[.int .u64 0, .int .u64 0, .int .u64 0, .int .u64 0] 44)
  go_enter Tryz.func16, Tryz.ntmps16
  go_wp2_with fail
  refine Calls.mono (h1 _) ?_
  rintro e w1 ⟨rfl, hb1⟩
  replace hX := hX.ext hb1
  replace hY := hY.ext hb1
  replace hE := hE.trans hb1
  clear hb1 h1
  replace hX := hX.alloc (.cells #[.int .u64 (lo cc), .int .u64 (hi cc)] 42)
  have hF : FldAt (w1.alloc (.cells #[.int .u64 (lo cc), .int .u64 (hi cc)] 42)) w.heap.size 0 f := ⟨hX.cell 0, hX.cell 1, hX.cell 2, hX.cell 3⟩
  have h4 := fun W (hE : Ext (w1.alloc (.cells #[.int .u64 (lo cc), .int .u64 (hi cc)] 42)) W) => h2 w.heap.size 0 W (hF.ext hE)
  clear h2 hF hX
  go_wp2
  refine wp_region_ext_tail 5 5 (by kernel_rfl) (by kernel_rfl) (by intro d _ _ _ _ h; cases d <;> exact h) ?_
  simp only [List.take_succ_cons, List.take_zero, List.drop_succ_cons, List.drop_zero]
  repeat (first | go_big_quiet_step ((first | (go_at_call 49; with_reducible exact Calls.ext_all (fun W hE => h4 W hE)) | (go_at_call 48; with_reducible exact Calls.ext_of (h3 _)))) | quiet_step ((first | (go_at_call 49; with_reducible exact Calls.ext_all (fun W hE => h4 W hE)) | (go_at_call 48; with_reducible exact Calls.ext_of (h3 _)))))
  refine wpQuiet_nil ?_
  intro w2 hq2
  have hb2 := ext_of_class hq2
  clear hq2
  obtain ⟨hc2, hf2, hz2⟩ := bcell3 hb2
  try simp at hz2
  replace hY := (hY.alloc (.cells #[.int .u64 (lo cc), .int .u64 (hi cc)] 42)).ext hb2
  replace hE := (hE.alloc (.cells #[.int .u64 (lo cc), .int .u64 (hi cc)] 42)).trans hb2
  clear hc2 hf2 hb2 h4 h3
  have ry0 : w2.cell? ⟨w.heap.size + 1, 0, none⟩ = some (.int .u64 0) := hY.cell 0
  have ry1 : w2.cell? ⟨w.heap.size + 1, 1, none⟩ = some (.int .u64 0) := hY.cell 1
  have ry2 : w2.cell? ⟨w.heap.size + 1, 2, none⟩ = some (.int .u64 0) := hY.cell 2
  have ry3 : w2.cell? ⟨w.heap.size + 1, 3, none⟩ = some (.int .u64 0) := hY.cell 3
  have rf0 := hY.frozen 0
  have rf1 := hY.frozen 1
  have rf2 := hY.frozen 2
  have rf3 := hY.frozen 3
  have rl := hY.lt
  go_wp2
  have rYf := ((((hY.set 0 (.int .u64 (lo cc))).set 1 (.int .u64 (hi cc))).set 2 (.int .u64 (lo nn))).set 3 (.int .u64 (hi nn)))
  clear ry0 rf0 ry1 rf1 ry2 rf2 ry3 rf3
  have rc0 : World.cell? _ ⟨w.heap.size + 1, 0, none⟩ = some (.int .u64 (lo cc)) := rYf.cell 0
  have rc1 : World.cell? _ ⟨w.heap.size + 1, 1, none⟩ = some (.int .u64 (hi cc)) := rYf.cell 1
  have rc2 : World.cell? _ ⟨w.heap.size + 1, 2, none⟩ = some (.int .u64 (lo nn)) := rYf.cell 2
  have rc3 : World.cell? _ ⟨w.heap.size + 1, 3, none⟩ = some (.int .u64 (hi nn)) := rYf.cell 3
  refine bodyPost_ret (v := .tuple #[.agg #[.int .u64 (lo cc), .int .u64 (hi cc), .int .u64 (lo nn), .int .u64 (hi nn)], .int .i64 0]) (by simp [results, Tryz.results16, go_sem, rc0, rc1, rc2, rc3]) rfl ⟨rfl, ?_⟩
  exact Ext.set (by dsimp only; omega) (Ext.set (by dsimp only; omega) (Ext.set (by dsimp only; omega) (Ext.set (by dsimp only; omega) (hE) _) _) _) _
end Go.Proofs.YtciepjdacmjhlaaGreatDoor
set_option linter.unusedVariables false
set_option linter.unusedSimpArgs false
set_option maxRecDepth 100000
namespace Go.Proofs.YtciepjdacmjhlaaGreatDoor
open Go.RowKit
/-- The holes of a mask below 96. -/
theorem trim_mask (m : Mask) : ∃ m2 : Mask, lo m2 = lo m ∧ hi m2 = IntKind.u64.wrap (hi m * 4294967296) / 4294967296 ∧ isMaskB m2 = true ∧ ∀ i : Nat, mhas m2 i = true → mhas m i = true := by
  have hn : (m &&& BitVec.ofNat 128 (2 ^ 96 - 1)).toNat = m.toNat % 79228162514264337593543950336 := by
    rw [BitVec.toNat_and, BitVec.toNat_ofNat, Nat.mod_eq_of_lt (by decide), Nat.and_two_pow_sub_one_eq_mod]
  have hlt := m.isLt
  refine ⟨m &&& BitVec.ofNat 128 (2 ^ 96 - 1), ?_, ?_, ?_, ?_⟩
  · unfold lo
    rw [hn]
    omega
  · unfold hi
    rw [hn, IntKind.wrap_u64]
    omega
  · unfold isMaskB
    rw [decide_eq_true_eq, hn]
    omega
  · intro i h
    unfold mhas at *
    rw [BitVec.getLsbD_and, Bool.and_eq_true] at h
    exact h.1
set_option maxHeartbeats 2000000 in
theorem impl_BothQueries_ok (q r : Qry) (hq : qryB q = true) (hr : qryB r = true) (ho : qryB (qryBoth q r) = true) (w : World) :
    Calls Tryz.prog 24 #[.agg #[.int .u64 (lo q.al), .int .u64 (hi q.al), .int .u64 (lo q.no), .int .u64 (hi q.no)], .agg #[.int .u64 (lo r.al), .int .u64 (hi r.al), .int .u64 (lo r.no), .int .u64 (hi r.no)]] w fun e w' => e = .returned (.tuple #[.agg #[.int .u64 (lo (qryBoth q r).al), .int .u64 (hi (qryBoth q r).al), .int .u64 (lo (qryBoth q r).no), .int .u64 (hi (qryBoth q r).no)], .int .i64 0]) ∧ Ext w w' := by
  have hx := @ExtOf.cell
  have h1 := fun W => impl_isQuery q W
  rw [hq] at h1
  have h2 := fun W => impl_isQuery r W
  rw [hr] at h2
  have h3 := fun W => impl_JoinMasks q.al r.al W
  have h4 := fun W => impl_JoinMasks q.no r.no W
  have h5 := fun W => impl_isQuery (qryBoth q r) W
  rw [ho] at h5
  clear ho
  have hal : (qryBoth q r).al = mjoin q.al r.al := rfl
  have hno : (qryBoth q r).no = mjoin q.no r.no := rfl
  rw [← hal] at h3
  rw [← hno] at h4
  clear hal hno hq hr
  generalize qryBoth q r = o at h3 h4 h5 ⊢
  have hX : BoxAt (((w.alloc (.cells #[.int .u64 (lo q.al), .int .u64 (hi q.al), .int .u64 (lo q.no), .int .u64 (hi q.no)] 44)).alloc (.cells #[.int .u64 (lo r.al), .int .u64 (hi r.al), .int .u64 (lo r.no), .int .u64 (hi r.no)] 44)).alloc (.cells #[.int .u64 0, .int .u64 0, .int .u64 0, .int .u64 0] 44)) w.heap.size #[.int .u64 (lo q.al), .int .u64 (hi q.al), .int .u64 (lo q.no), .int .u64 (hi q.no)] 44 := ((BoxAt.new' rfl).alloc _).alloc _
  have hY : BoxAt (((w.alloc (.cells #[.int .u64 (lo q.al), .int .u64 (hi q.al), .int .u64 (lo q.no), .int .u64 (hi q.no)] 44)).alloc (.cells #[.int .u64 (lo r.al), .int .u64 (hi r.al), .int .u64 (lo r.no), .int .u64 (hi r.no)] 44)).alloc (.cells #[.int .u64 0, .int .u64 0, .int .u64 0, .int .u64 0] 44)) (w.heap.size + 1) #[.int .u64 (lo r.al), .int .u64 (hi r.al), .int .u64 (lo r.no), .int .u64 (hi r.no)] 44 := (BoxAt.new' (by simp)).alloc _
  have hZ : BoxAt (((w.alloc (.cells #[.int .u64 (lo q.al), .int .u64 (hi q.al), .int .u64 (lo q.no), .int .u64 (hi q.no)] 44)).alloc (.cells #[.int .u64 (lo r.al), .int .u64 (hi r.al), .int .u64 (lo r.no), .int .u64 (hi r.no)] 44)).alloc (.cells #[.int .u64 0, .int .u64 0, .int .u64 0, .int .u64 0] 44)) (w.heap.size + 2) #[.int .u64 0, .int .u64 0, .int .u64 0, .int .u64 0] 44 := BoxAt.new' (by simp)
  have hE := (((Ext.refl w).alloc (.cells #[.int .u64 (lo q.al), .int .u64 (hi q.al), .int .u64 (lo q.no), .int .u64 (hi q.no)] 44)).alloc (.cells #[.int .u64 (lo r.al), .int .u64 (hi r.al), .int .u64 (lo r.no), .int .u64 (hi r.no)] 44)).alloc (.cells #[.int .u64 0, .int .u64 0, .int .u64 0, .int .u64 0] 44)
  go_enter Tryz.func24, Tryz.ntmps24
  go_wp2_with fail
  refine Calls.mono (h1 _) ?_
  rintro e w1 ⟨rfl, hb1⟩
  replace hX := hX.ext hb1
  replace hY := hY.ext hb1
  replace hZ := hZ.ext hb1
  replace hE := hE.trans hb1
  have l0 : w.heap.size < w1.heap.size := hX.lt
  have y0 : w1.cell? ⟨w.heap.size + 1, 0, none⟩ = some (.int .u64 (lo r.al)) := hY.cell 0
  have y1 : w1.cell? ⟨w.heap.size + 1, 1, none⟩ = some (.int .u64 (hi r.al)) := hY.cell 1
  have y2 : w1.cell? ⟨w.heap.size + 1, 2, none⟩ = some (.int .u64 (lo r.no)) := hY.cell 2
  have y3 : w1.cell? ⟨w.heap.size + 1, 3, none⟩ = some (.int .u64 (hi r.no)) := hY.cell 3
  have ly := hY.lt
  go_wp2_with fail
  refine Calls.mono (h2 _) ?_
  rintro e w2 ⟨rfl, hb2⟩
  replace hX := hX.ext hb2
  replace hY := hY.ext hb2
  replace hZ := hZ.ext hb2
  replace hE := hE.trans hb2
  clear y0 y1 y2 y3 ly l0 hb1 hb2 h1 h2
  have x0 : w2.cell? ⟨w.heap.size, 0, none⟩ = some (.int .u64 (lo q.al)) := hX.cell 0
  have x1 : w2.cell? ⟨w.heap.size, 1, none⟩ = some (.int .u64 (hi q.al)) := hX.cell 1
  have x2 : w2.cell? ⟨w.heap.size, 2, none⟩ = some (.int .u64 (lo q.no)) := hX.cell 2
  have x3 : w2.cell? ⟨w.heap.size, 3, none⟩ = some (.int .u64 (hi q.no)) := hX.cell 3
  have lx := hX.lt
  have y0 : w2.cell? ⟨w.heap.size + 1, 0, none⟩ = some (.int .u64 (lo r.al)) := hY.cell 0
  have y1 : w2.cell? ⟨w.heap.size + 1, 1, none⟩ = some (.int .u64 (hi r.al)) := hY.cell 1
  have y2 : w2.cell? ⟨w.heap.size + 1, 2, none⟩ = some (.int .u64 (lo r.no)) := hY.cell 2
  have y3 : w2.cell? ⟨w.heap.size + 1, 3, none⟩ = some (.int .u64 (hi r.no)) := hY.cell 3
  have ly := hY.lt
  have lZ0 := hZ.lt
  go_wp2
  refine wp_region_float 11 11 6 _ #[.int .u64 0, .int .u64 0, .int .u64 0, .int .u64 0] 44 (by kernel_rfl) (by kernel_rfl) rfl rfl rfl rfl (fun _ _ => by go_simp) (by intro d _ _ _ _ h; cases d <;> exact h) ?_
  simp only [List.take_succ_cons, List.take_zero, List.drop_succ_cons, List.drop_zero]
  repeat (refine wpX_step (fun K hK => ?_); go_simp; first | (refine hK _ ?_; clear hK K) | (apply Exists.intro; refine ⟨fun x => ?_, hK _ ?_⟩; ((first | (go_at_call 60; with_reducible exact h3 _) | (go_at_call 60; with_reducible exact h4 _))); clear hK K))
  refine wpX_nil ?_
  intro b3 w3 hb3 hbb3 hcb3
  obtain ⟨hc3, hf3, hz3⟩ := bcell3 hb3
  try simp at hz3
  try simp at hbb3
  have hbl3 := blk_lt hcb3
  have hbf3 := blk_free hcb3
  have hbc3_0 : w3.cell? ⟨b3, 0, none⟩ = some (.int .u64 0) := blk_cell hcb3 0 rfl
  have hbc3_1 : w3.cell? ⟨b3, 1, none⟩ = some (.int .u64 0) := blk_cell hcb3 1 rfl
  have hbc3_2 : w3.cell? ⟨b3, 2, none⟩ = some (.int .u64 0) := blk_cell hcb3 2 rfl
  have hbc3_3 : w3.cell? ⟨b3, 3, none⟩ = some (.int .u64 0) := blk_cell hcb3 3 rfl
  have hX3 : BoxAt w3 b3 #[.int .u64 0, .int .u64 0, .int .u64 0, .int .u64 0] 44 := hcb3
  clear hcb3
  replace hZ := hZ.ext hb3
  replace hE := hE.trans hb3
  clear hX hY x0 x1 x2 x3 lx y0 y1 y2 y3 ly h3 h4 hc3 hf3
  have hne : b3 ≠ w.heap.size + 2 := by omega
  have hbw : w.heap.size ≤ b3 := by omega
  clear lZ0 hbl3 hbf3 hbc3_0 hbc3_1 hbc3_2 hbc3_3 hz3
  have y0 : w3.cell? ⟨b3, 0, none⟩ = some (.int .u64 0) := hX3.cell 0
  have y1 : w3.cell? ⟨b3, 1, none⟩ = some (.int .u64 0) := hX3.cell 1
  have y2 : w3.cell? ⟨b3, 2, none⟩ = some (.int .u64 0) := hX3.cell 2
  have y3 : w3.cell? ⟨b3, 3, none⟩ = some (.int .u64 0) := hX3.cell 3
  have f0 := hX3.frozen 0
  have f1 := hX3.frozen 1
  have f2 := hX3.frozen 2
  have f3 := hX3.frozen 3
  have lX := hX3.lt
  go_wp2_with fail
  refine intro_world (R := fun W => Calls _ _ _ W _) (fun W4 hW4 => ?_)
  have hX4 : BoxAt W4 b3 #[.int .u64 (lo o.al), .int .u64 (hi o.al), .int .u64 (lo o.no), .int .u64 (hi o.no)] 44 := by rw [hW4]; exact (((hX3.set 0 (.int .u64 (lo o.al))).set 1 (.int .u64 (hi o.al))).set 2 (.int .u64 (lo o.no))).set 3 (.int .u64 (hi o.no))
  have hZ4 : BoxAt W4 (w.heap.size + 2) #[.int .u64 0, .int .u64 0, .int .u64 0, .int .u64 0] 44 := by
    rw [hW4]
    exact (((hZ.setOther (p := ⟨b3, 0, none⟩) (fun e => hne e.symm) (.int .u64 (lo o.al))).setOther (p := ⟨b3, 1, none⟩) (fun e => hne e.symm) (.int .u64 (hi o.al))).setOther (p := ⟨b3, 2, none⟩) (fun e => hne e.symm) (.int .u64 (lo o.no))).setOther (p := ⟨b3, 3, none⟩) (fun e => hne e.symm) (.int .u64 (hi o.no))
  have hE4 : Ext w W4 := by
    rw [hW4]
    exact Ext.set (by exact hbw) (Ext.set (by exact hbw) (Ext.set (by exact hbw) (Ext.set (by exact hbw) hE _) _) _) _
  clear hW4 y0 y1 y2 y3 f0 f1 f2 f3 lX hX3 hZ hE hb3
  refine Calls.mono (h5 W4) ?_
  rintro e w5 ⟨rfl, hb5⟩
  replace hX4 := hX4.ext hb5
  replace hZ4 := hZ4.ext hb5
  replace hE4 := hE4.trans hb5
  clear hb5 h5
  have x0 : w5.cell? ⟨b3, 0, none⟩ = some (.int .u64 (lo o.al)) := hX4.cell 0
  have x1 : w5.cell? ⟨b3, 1, none⟩ = some (.int .u64 (hi o.al)) := hX4.cell 1
  have x2 : w5.cell? ⟨b3, 2, none⟩ = some (.int .u64 (lo o.no)) := hX4.cell 2
  have x3 : w5.cell? ⟨b3, 3, none⟩ = some (.int .u64 (hi o.no)) := hX4.cell 3
  have lx := hX4.lt
  have ry0 : w5.cell? ⟨w.heap.size + 2, 0, none⟩ = some (.int .u64 0) := hZ4.cell 0
  have ry1 : w5.cell? ⟨w.heap.size + 2, 1, none⟩ = some (.int .u64 0) := hZ4.cell 1
  have ry2 : w5.cell? ⟨w.heap.size + 2, 2, none⟩ = some (.int .u64 0) := hZ4.cell 2
  have ry3 : w5.cell? ⟨w.heap.size + 2, 3, none⟩ = some (.int .u64 0) := hZ4.cell 3
  have rf0 := hZ4.frozen 0
  have rf1 := hZ4.frozen 1
  have rf2 := hZ4.frozen 2
  have rf3 := hZ4.frozen 3
  have rl := hZ4.lt
  go_wp2
  have rYf := ((((hZ4.set 0 (.int .u64 (lo o.al))).set 1 (.int .u64 (hi o.al))).set 2 (.int .u64 (lo o.no))).set 3 (.int .u64 (hi o.no)))
  clear ry0 rf0 ry1 rf1 ry2 rf2 ry3 rf3
  have rc0 : World.cell? _ ⟨w.heap.size + 2, 0, none⟩ = some (.int .u64 (lo o.al)) := rYf.cell 0
  have rc1 : World.cell? _ ⟨w.heap.size + 2, 1, none⟩ = some (.int .u64 (hi o.al)) := rYf.cell 1
  have rc2 : World.cell? _ ⟨w.heap.size + 2, 2, none⟩ = some (.int .u64 (lo o.no)) := rYf.cell 2
  have rc3 : World.cell? _ ⟨w.heap.size + 2, 3, none⟩ = some (.int .u64 (hi o.no)) := rYf.cell 3
  refine bodyPost_ret (v := .tuple #[.agg #[.int .u64 (lo o.al), .int .u64 (hi o.al), .int .u64 (lo o.no), .int .u64 (hi o.no)], .int .i64 0]) (by simp [results, Tryz.results24, go_sem, rc0, rc1, rc2, rc3]) rfl ⟨rfl, ?_⟩
  exact Ext.set (by dsimp only; omega) (Ext.set (by dsimp only; omega) (Ext.set (by dsimp only; omega) (Ext.set (by dsimp only; omega) (hE4) _) _) _) _
set_option maxHeartbeats 2000000 in
theorem impl_BothQueries_no (q r : Qry) (hq : qryB q = true) (hr : qryB r = true) (ho : qryB (qryBoth q r) = false) (w : World) :
    Calls Tryz.prog 24 #[.agg #[.int .u64 (lo q.al), .int .u64 (hi q.al), .int .u64 (lo q.no), .int .u64 (hi q.no)], .agg #[.int .u64 (lo r.al), .int .u64 (hi r.al), .int .u64 (lo r.no), .int .u64 (hi r.no)]] w fun e w' => e = .returned (.tuple #[.agg #[.int .u64 0, .int .u64 0, .int .u64 0, .int .u64 0], .int .i64 4]) ∧ Ext w w' := by
  have hx := @ExtOf.cell
  have h1 := fun W => impl_isQuery q W
  rw [hq] at h1
  have h2 := fun W => impl_isQuery r W
  rw [hr] at h2
  have h3 := fun W => impl_JoinMasks q.al r.al W
  have h4 := fun W => impl_JoinMasks q.no r.no W
  have h5 := fun W => impl_isQuery (qryBoth q r) W
  rw [ho] at h5
  clear ho
  have hal : (qryBoth q r).al = mjoin q.al r.al := rfl
  have hno : (qryBoth q r).no = mjoin q.no r.no := rfl
  rw [← hal] at h3
  rw [← hno] at h4
  clear hal hno hq hr
  generalize qryBoth q r = o at h3 h4 h5 ⊢
  have hX : BoxAt (((w.alloc (.cells #[.int .u64 (lo q.al), .int .u64 (hi q.al), .int .u64 (lo q.no), .int .u64 (hi q.no)] 44)).alloc (.cells #[.int .u64 (lo r.al), .int .u64 (hi r.al), .int .u64 (lo r.no), .int .u64 (hi r.no)] 44)).alloc (.cells #[.int .u64 0, .int .u64 0, .int .u64 0, .int .u64 0] 44)) w.heap.size #[.int .u64 (lo q.al), .int .u64 (hi q.al), .int .u64 (lo q.no), .int .u64 (hi q.no)] 44 := ((BoxAt.new' rfl).alloc _).alloc _
  have hY : BoxAt (((w.alloc (.cells #[.int .u64 (lo q.al), .int .u64 (hi q.al), .int .u64 (lo q.no), .int .u64 (hi q.no)] 44)).alloc (.cells #[.int .u64 (lo r.al), .int .u64 (hi r.al), .int .u64 (lo r.no), .int .u64 (hi r.no)] 44)).alloc (.cells #[.int .u64 0, .int .u64 0, .int .u64 0, .int .u64 0] 44)) (w.heap.size + 1) #[.int .u64 (lo r.al), .int .u64 (hi r.al), .int .u64 (lo r.no), .int .u64 (hi r.no)] 44 := (BoxAt.new' (by simp)).alloc _
  have hZ : BoxAt (((w.alloc (.cells #[.int .u64 (lo q.al), .int .u64 (hi q.al), .int .u64 (lo q.no), .int .u64 (hi q.no)] 44)).alloc (.cells #[.int .u64 (lo r.al), .int .u64 (hi r.al), .int .u64 (lo r.no), .int .u64 (hi r.no)] 44)).alloc (.cells #[.int .u64 0, .int .u64 0, .int .u64 0, .int .u64 0] 44)) (w.heap.size + 2) #[.int .u64 0, .int .u64 0, .int .u64 0, .int .u64 0] 44 := BoxAt.new' (by simp)
  have hE := (((Ext.refl w).alloc (.cells #[.int .u64 (lo q.al), .int .u64 (hi q.al), .int .u64 (lo q.no), .int .u64 (hi q.no)] 44)).alloc (.cells #[.int .u64 (lo r.al), .int .u64 (hi r.al), .int .u64 (lo r.no), .int .u64 (hi r.no)] 44)).alloc (.cells #[.int .u64 0, .int .u64 0, .int .u64 0, .int .u64 0] 44)
  go_enter Tryz.func24, Tryz.ntmps24
  go_wp2_with fail
  refine Calls.mono (h1 _) ?_
  rintro e w1 ⟨rfl, hb1⟩
  replace hX := hX.ext hb1
  replace hY := hY.ext hb1
  replace hZ := hZ.ext hb1
  replace hE := hE.trans hb1
  have l0 : w.heap.size < w1.heap.size := hX.lt
  have y0 : w1.cell? ⟨w.heap.size + 1, 0, none⟩ = some (.int .u64 (lo r.al)) := hY.cell 0
  have y1 : w1.cell? ⟨w.heap.size + 1, 1, none⟩ = some (.int .u64 (hi r.al)) := hY.cell 1
  have y2 : w1.cell? ⟨w.heap.size + 1, 2, none⟩ = some (.int .u64 (lo r.no)) := hY.cell 2
  have y3 : w1.cell? ⟨w.heap.size + 1, 3, none⟩ = some (.int .u64 (hi r.no)) := hY.cell 3
  have ly := hY.lt
  go_wp2_with fail
  refine Calls.mono (h2 _) ?_
  rintro e w2 ⟨rfl, hb2⟩
  replace hX := hX.ext hb2
  replace hY := hY.ext hb2
  replace hZ := hZ.ext hb2
  replace hE := hE.trans hb2
  clear y0 y1 y2 y3 ly l0 hb1 hb2 h1 h2
  have x0 : w2.cell? ⟨w.heap.size, 0, none⟩ = some (.int .u64 (lo q.al)) := hX.cell 0
  have x1 : w2.cell? ⟨w.heap.size, 1, none⟩ = some (.int .u64 (hi q.al)) := hX.cell 1
  have x2 : w2.cell? ⟨w.heap.size, 2, none⟩ = some (.int .u64 (lo q.no)) := hX.cell 2
  have x3 : w2.cell? ⟨w.heap.size, 3, none⟩ = some (.int .u64 (hi q.no)) := hX.cell 3
  have lx := hX.lt
  have y0 : w2.cell? ⟨w.heap.size + 1, 0, none⟩ = some (.int .u64 (lo r.al)) := hY.cell 0
  have y1 : w2.cell? ⟨w.heap.size + 1, 1, none⟩ = some (.int .u64 (hi r.al)) := hY.cell 1
  have y2 : w2.cell? ⟨w.heap.size + 1, 2, none⟩ = some (.int .u64 (lo r.no)) := hY.cell 2
  have y3 : w2.cell? ⟨w.heap.size + 1, 3, none⟩ = some (.int .u64 (hi r.no)) := hY.cell 3
  have ly := hY.lt
  have lZ0 := hZ.lt
  go_wp2
  refine wp_region_float 11 11 6 _ #[.int .u64 0, .int .u64 0, .int .u64 0, .int .u64 0] 44 (by kernel_rfl) (by kernel_rfl) rfl rfl rfl rfl (fun _ _ => by go_simp) (by intro d _ _ _ _ h; cases d <;> exact h) ?_
  simp only [List.take_succ_cons, List.take_zero, List.drop_succ_cons, List.drop_zero]
  repeat (refine wpX_step (fun K hK => ?_); go_simp; first | (refine hK _ ?_; clear hK K) | (apply Exists.intro; refine ⟨fun x => ?_, hK _ ?_⟩; ((first | (go_at_call 60; with_reducible exact h3 _) | (go_at_call 60; with_reducible exact h4 _))); clear hK K))
  refine wpX_nil ?_
  intro b3 w3 hb3 hbb3 hcb3
  obtain ⟨hc3, hf3, hz3⟩ := bcell3 hb3
  try simp at hz3
  try simp at hbb3
  have hbl3 := blk_lt hcb3
  have hbf3 := blk_free hcb3
  have hbc3_0 : w3.cell? ⟨b3, 0, none⟩ = some (.int .u64 0) := blk_cell hcb3 0 rfl
  have hbc3_1 : w3.cell? ⟨b3, 1, none⟩ = some (.int .u64 0) := blk_cell hcb3 1 rfl
  have hbc3_2 : w3.cell? ⟨b3, 2, none⟩ = some (.int .u64 0) := blk_cell hcb3 2 rfl
  have hbc3_3 : w3.cell? ⟨b3, 3, none⟩ = some (.int .u64 0) := blk_cell hcb3 3 rfl
  have hX3 : BoxAt w3 b3 #[.int .u64 0, .int .u64 0, .int .u64 0, .int .u64 0] 44 := hcb3
  clear hcb3
  replace hZ := hZ.ext hb3
  replace hE := hE.trans hb3
  clear hX hY x0 x1 x2 x3 lx y0 y1 y2 y3 ly h3 h4 hc3 hf3
  have hne : b3 ≠ w.heap.size + 2 := by omega
  have hbw : w.heap.size ≤ b3 := by omega
  clear lZ0 hbl3 hbf3 hbc3_0 hbc3_1 hbc3_2 hbc3_3 hz3
  have y0 : w3.cell? ⟨b3, 0, none⟩ = some (.int .u64 0) := hX3.cell 0
  have y1 : w3.cell? ⟨b3, 1, none⟩ = some (.int .u64 0) := hX3.cell 1
  have y2 : w3.cell? ⟨b3, 2, none⟩ = some (.int .u64 0) := hX3.cell 2
  have y3 : w3.cell? ⟨b3, 3, none⟩ = some (.int .u64 0) := hX3.cell 3
  have f0 := hX3.frozen 0
  have f1 := hX3.frozen 1
  have f2 := hX3.frozen 2
  have f3 := hX3.frozen 3
  have lX := hX3.lt
  go_wp2_with fail
  refine intro_world (R := fun W => Calls _ _ _ W _) (fun W4 hW4 => ?_)
  have hX4 : BoxAt W4 b3 #[.int .u64 (lo o.al), .int .u64 (hi o.al), .int .u64 (lo o.no), .int .u64 (hi o.no)] 44 := by rw [hW4]; exact (((hX3.set 0 (.int .u64 (lo o.al))).set 1 (.int .u64 (hi o.al))).set 2 (.int .u64 (lo o.no))).set 3 (.int .u64 (hi o.no))
  have hZ4 : BoxAt W4 (w.heap.size + 2) #[.int .u64 0, .int .u64 0, .int .u64 0, .int .u64 0] 44 := by
    rw [hW4]
    exact (((hZ.setOther (p := ⟨b3, 0, none⟩) (fun e => hne e.symm) (.int .u64 (lo o.al))).setOther (p := ⟨b3, 1, none⟩) (fun e => hne e.symm) (.int .u64 (hi o.al))).setOther (p := ⟨b3, 2, none⟩) (fun e => hne e.symm) (.int .u64 (lo o.no))).setOther (p := ⟨b3, 3, none⟩) (fun e => hne e.symm) (.int .u64 (hi o.no))
  have hE4 : Ext w W4 := by
    rw [hW4]
    exact Ext.set (by exact hbw) (Ext.set (by exact hbw) (Ext.set (by exact hbw) (Ext.set (by exact hbw) hE _) _) _) _
  clear hW4 y0 y1 y2 y3 f0 f1 f2 f3 lX hX3 hZ hE hb3
  refine Calls.mono (h5 W4) ?_
  rintro e w5 ⟨rfl, hb5⟩
  replace hX4 := hX4.ext hb5
  replace hZ4 := hZ4.ext hb5
  replace hE4 := hE4.trans hb5
  clear hb5 h5
  have ry0 : w5.cell? ⟨w.heap.size + 2, 0, none⟩ = some (.int .u64 0) := hZ4.cell 0
  have ry1 : w5.cell? ⟨w.heap.size + 2, 1, none⟩ = some (.int .u64 0) := hZ4.cell 1
  have ry2 : w5.cell? ⟨w.heap.size + 2, 2, none⟩ = some (.int .u64 0) := hZ4.cell 2
  have ry3 : w5.cell? ⟨w.heap.size + 2, 3, none⟩ = some (.int .u64 0) := hZ4.cell 3
  have rf0 := hZ4.frozen 0
  have rf1 := hZ4.frozen 1
  have rf2 := hZ4.frozen 2
  have rf3 := hZ4.frozen 3
  have rl := hZ4.lt
  go_wp2
  have rYf := ((((hZ4.set 0 (.int .u64 0)).set 1 (.int .u64 0)).set 2 (.int .u64 0)).set 3 (.int .u64 0))
  clear ry0 rf0 ry1 rf1 ry2 rf2 ry3 rf3
  have rc0 : World.cell? _ ⟨w.heap.size + 2, 0, none⟩ = some (.int .u64 0) := rYf.cell 0
  have rc1 : World.cell? _ ⟨w.heap.size + 2, 1, none⟩ = some (.int .u64 0) := rYf.cell 1
  have rc2 : World.cell? _ ⟨w.heap.size + 2, 2, none⟩ = some (.int .u64 0) := rYf.cell 2
  have rc3 : World.cell? _ ⟨w.heap.size + 2, 3, none⟩ = some (.int .u64 0) := rYf.cell 3
  refine bodyPost_ret (v := .tuple #[.agg #[.int .u64 0, .int .u64 0, .int .u64 0, .int .u64 0], .int .i64 4]) (by simp [results, Tryz.results24, go_sem, rc0, rc1, rc2, rc3]) rfl ⟨rfl, ?_⟩
  exact Ext.set (by dsimp only; omega) (Ext.set (by dsimp only; omega) (Ext.set (by dsimp only; omega) (Ext.set (by dsimp only; omega) (hE4) _) _) _) _
set_option maxHeartbeats 4000000 in
theorem spec_l02Asking (base b n : Nat) (xs : List Fld) (L : Option Addr) (lcap : Nat) (w : World) (hS : Src w base b n) (hn : n + 200 ≤ 1099511627776) (hL : Rd encFld w L xs) (hLb : ∀ p, L = some p → p.block < b) (h1 : 1 ≤ xs.length) (hx5 : xs.length ≤ 5) (hDs : DrawnS xs) :
    Calls Tryz.prog 59 #[.pointer (some ⟨b, 0, none⟩), .slice L xs.length lcap] w fun e w' => ∃ q : Qry, e = .returned (.agg #[.int .u64 (lo q.al), .int .u64 (hi q.al), .int .u64 (lo q.no), .int .u64 (hi q.no)]) ∧ isMaskB q.al = true ∧ Src w' base b (n + 200) ∧ Win b (b + 1) w w' := by
  have hx := @ExtOf.cell
  have lS := hS.lt
  have hbs := hS.base
  have hE := ((Ext.refl w).alloc (.cells #[.int .u64 0, .int .u64 0, .int .u64 0, .int .u64 0] 44)).alloc (.cells #[.int .u64 0, .int .u64 0, .int .u64 0, .int .u64 0] 44)
  have hZ : BoxAt ((w.alloc (.cells #[.int .u64 0, .int .u64 0, .int .u64 0, .int .u64 0] 44)).alloc (.cells #[.int .u64 0, .int .u64 0, .int .u64 0, .int .u64 0] 44)) w.heap.size #[.int .u64 0, .int .u64 0, .int .u64 0, .int .u64 0] 44 := (BoxAt.new' rfl).alloc _
  have hQ : BoxAt ((w.alloc (.cells #[.int .u64 0, .int .u64 0, .int .u64 0, .int .u64 0] 44)).alloc (.cells #[.int .u64 0, .int .u64 0, .int .u64 0, .int .u64 0] 44)) (w.heap.size + 1) #[.int .u64 0, .int .u64 0, .int .u64 0, .int .u64 0] 44 := BoxAt.new' (by simp)
  have hL1 := hL.ext hE
  replace hS := hS.ext hE
  have hw := Win.of (lo := b) (hi := b + 1) hE
  clear hE hL
  go_enter Tryz.func59, Tryz.ntmps59
  go_wp2_with fail
  refine Calls.mono (src_pick base b n xs.length (by omega) _ hS (by omega)) ?_
  rintro e w2 ⟨r, rfl, r0, r1, hSa, hWa⟩
  replace hQ := hQ.win hWa (.inr (by omega))
  replace hZ := hZ.win hWa (.inr (by omega))
  replace hL1 := hL1.winN hWa (fun _ p hp => .inl (hLb p hp))
  replace hw := hw.trans hWa
  replace hS := hSa
  clear hSa hWa
  obtain ⟨i, rfl⟩ := Int.eq_ofNat_of_zero_le r0
  have hi5 : i < xs.length := by omega
  obtain ⟨bL, oL, hAL, hltL, hrL⟩ := hL1 i hi5
  subst hAL
  clear hrL hltL r0 r1
  have hfd := hDs _ (List.getElem_mem hi5)
  have hbL : bL < b := hLb _ rfl
  have hFa := fun W (h : Rd encFld W (some ⟨bL, oL, none⟩) xs) => h.fldAt i hi5
  generalize xs[i] = f at hFa hfd
  have q1 : (i : Int) < xs.length := by omega
  have hf := hfd.1
  have hL0 := code_law hf hfd.2
  have hmo := mostF_le f hf
  have j1 : IntKind.i64.wrap (mostF f + 1) = mostF f + 1 := IntWalk.i64_in _ (by omega)
  go_wp2_with fail
  refine Calls.mono (spec_l01Most f hf bL (oL + i * 4) w2 (hFa _ hL1)) ?_
  rintro e w3 ⟨rfl, hb3⟩
  replace hQ := hQ.ext hb3
  replace hZ := hZ.ext hb3
  replace hL1 := hL1.ext hb3
  replace hw := hw.ext hb3
  replace hS := hS.ext hb3
  clear hb3
  go_wp2_with fail
  refine Calls.mono (src_pick base b _ (mostF f + 1) (by omega) w3 hS (by omega)) ?_
  rintro e w4 ⟨v, rfl, v0, v1, hSa, hWa⟩
  replace hQ := hQ.win hWa (.inr (by omega))
  replace hZ := hZ.win hWa (.inr (by omega))
  replace hL1 := hL1.winN hWa (fun _ p hp => .inl (hLb p hp))
  replace hw := hw.trans hWa
  replace hS := hSa
  clear hSa hWa
  replace v1 : v ≤ mostF f := by omega
  have hcm := code_mask hf hL0 v0 v1
  have hcd := fun W h => spec_l01Code f hf v v0 v1 bL (oL + i * 4) W h
  have hpt := fun W h => spec_l01Part f hf bL (oL + i * 4) W h
  generalize codeF f v = cv at hcm hcd
  generalize partF f = pt at hpt
  clear hL0
  go_wp2_with fail
  refine Calls.mono (hcd w4 (hFa _ hL1)) ?_
  rintro e w5 ⟨rfl, hb5⟩
  have l5 : w.heap.size + 1 < w5.heap.size := Nat.lt_of_lt_of_le hQ.lt hb5.size
  have kE := hb5.alloc (.cells #[.int .u64 (lo cv), .int .u64 (hi cv)] 42)
  have hM : BoxAt (w5.alloc (.cells #[.int .u64 (lo cv), .int .u64 (hi cv)] 42)) w5.heap.size #[.int .u64 (lo cv), .int .u64 (hi cv)] 42 := BoxAt.new' rfl
  replace hQ := hQ.ext kE
  replace hZ := hZ.ext kE
  replace hL1 := hL1.ext kE
  replace hw := hw.ext kE
  replace hS := hS.ext kE
  clear hcd hb5 kE
  go_wp2_with fail
  refine Calls.mono (src_pick base b _ 4 (by omega) _ hS (by omega)) ?_
  rintro e w6 ⟨s, rfl, s0, s1, hSa, hWa⟩
  replace hQ := hQ.win hWa (.inr (by omega))
  replace hZ := hZ.win hWa (.inr (by omega))
  replace hM := hM.win hWa (.inr (by omega))
  replace hL1 := hL1.winN hWa (fun _ p hp => .inl (hLb p hp))
  replace hw := hw.trans hWa
  replace hS := hSa
  clear hSa hWa
  generalize w5.heap.size = bM at hM l5 ⊢
  have m0 : w6.cell? ⟨bM, 0, none⟩ = some (.int .u64 (lo cv)) := hM.cell 0
  have m1 : w6.cell? ⟨bM, 1, none⟩ = some (.int .u64 (hi cv)) := hM.cell 1
  have lm := hM.lt
  have y0 : w6.cell? ⟨w.heap.size + 1, 0, none⟩ = some (.int .u64 0) := hQ.cell 0
  have y1 : w6.cell? ⟨w.heap.size + 1, 1, none⟩ = some (.int .u64 0) := hQ.cell 1
  have y2 : w6.cell? ⟨w.heap.size + 1, 2, none⟩ = some (.int .u64 0) := hQ.cell 2
  have y3 : w6.cell? ⟨w.heap.size + 1, 3, none⟩ = some (.int .u64 0) := hQ.cell 3
  have ly := hQ.lt
  have f0 := hQ.frozen 0
  have f1 := hQ.frozen 1
  have f2 := hQ.frozen 2
  have f3 := hQ.frozen 3
  rcases (show s = 0 ∨ s = 1 ∨ s = 2 ∨ s = 3 by omega) with rfl | rfl | rfl | rfl
  · have halc := hcm
    have hQ0 : BoxAt _ (w.heap.size + 1) #[.int .u64 (lo 0), .int .u64 (hi 0), .int .u64 (lo 0), .int .u64 (hi 0)] 44 := hQ
    have kQ := ((hQ0.set 0 (.int .u64 (lo cv))).set 1 (.int .u64 (hi cv)))
    have kZ := ((hZ.setOther (p := ⟨w.heap.size + 1, 0, none⟩) (by dsimp only; omega) (.int .u64 (lo cv))).setOther (p := ⟨w.heap.size + 1, 1, none⟩) (by dsimp only; omega) (.int .u64 (hi cv)))
    have kS := ((hS.set (p := ⟨w.heap.size + 1, 0, none⟩) (by dsimp only; omega) (by dsimp only; omega) (.int .u64 (lo cv))).set (p := ⟨w.heap.size + 1, 1, none⟩) (by dsimp only; omega) (by dsimp only; omega) (.int .u64 (hi cv)))
    have kw := ((hw.setOut (p := ⟨w.heap.size + 1, 0, none⟩) (by dsimp only; omega) (.int .u64 (lo cv))).setOut (p := ⟨w.heap.size + 1, 1, none⟩) (by dsimp only; omega) (.int .u64 (hi cv)))
    go_wp2_with fail
    refine intro_world (R := fun W => Calls _ _ _ W _) (fun W hW => ?_)
    rw [← hW] at kQ kZ kS kw
    clear hW hQ0 hQ hZ hS hw y0 y1 y2 y3 f0 f1 f2 f3 ly
    have hQ : BoxAt W (w.heap.size + 1) #[.int .u64 (lo (⟨cv, 0⟩ : Qry).al), .int .u64 (hi (⟨cv, 0⟩ : Qry).al), .int .u64 (lo (⟨cv, 0⟩ : Qry).no), .int .u64 (hi (⟨cv, 0⟩ : Qry).no)] 44 := kQ
    have hZ := kZ
    have hS := kS.up (show _ ≤ n + 100 by omega) (by omega)
    have hw := kw
    clear kQ kZ kS kw
    clear hM m0 m1 lm
    have hal : isMaskB (⟨cv, 0⟩ : Qry).al = true := halc
    clear halc
    generalize (⟨cv, 0⟩ : Qry) = q at hQ hal
    go_wp2_with fail
    refine Calls.mono (src_one base b _ 20 (by omega) W hS (by omega)) ?_
    rintro e wa ⟨one, rfl, hSa, hWa⟩
    replace hQ := hQ.win hWa (.inr (by omega))
    replace hZ := hZ.win hWa (.inr (by omega))
    replace hw := hw.trans hWa
    replace hS := hSa
    clear hWa hSa
    cases one with
    | false =>
      have y0 : wa.cell? ⟨w.heap.size + 1, 0, none⟩ = some (.int .u64 (lo q.al)) := hQ.cell 0
      have y1 : wa.cell? ⟨w.heap.size + 1, 1, none⟩ = some (.int .u64 (hi q.al)) := hQ.cell 1
      have y2 : wa.cell? ⟨w.heap.size + 1, 2, none⟩ = some (.int .u64 (lo q.no)) := hQ.cell 2
      have y3 : wa.cell? ⟨w.heap.size + 1, 3, none⟩ = some (.int .u64 (hi q.no)) := hQ.cell 3
      have ly := hQ.lt
      have z0 : wa.cell? ⟨w.heap.size, 0, none⟩ = some (.int .u64 0) := hZ.cell 0
      have z1 : wa.cell? ⟨w.heap.size, 1, none⟩ = some (.int .u64 0) := hZ.cell 1
      have z2 : wa.cell? ⟨w.heap.size, 2, none⟩ = some (.int .u64 0) := hZ.cell 2
      have z3 : wa.cell? ⟨w.heap.size, 3, none⟩ = some (.int .u64 0) := hZ.cell 3
      have lz := hZ.lt
      have g0 := hZ.frozen 0
      have g1 := hZ.frozen 1
      have g2 := hZ.frozen 2
      have g3 := hZ.frozen 3
      go_wp2
      have hZf := ((((hZ.set 0 (.int .u64 (lo q.al))).set 1 (.int .u64 (hi q.al))).set 2 (.int .u64 (lo q.no))).set 3 (.int .u64 (hi q.no)))
      clear y0 y1 y2 y3 z0 z1 z2 z3 g0 g1 g2 g3
      have c0 : World.cell? _ ⟨w.heap.size, 0, none⟩ = some (.int .u64 (lo q.al)) := hZf.cell 0
      have c1 : World.cell? _ ⟨w.heap.size, 1, none⟩ = some (.int .u64 (hi q.al)) := hZf.cell 1
      have c2 : World.cell? _ ⟨w.heap.size, 2, none⟩ = some (.int .u64 (lo q.no)) := hZf.cell 2
      have c3 : World.cell? _ ⟨w.heap.size, 3, none⟩ = some (.int .u64 (hi q.no)) := hZf.cell 3
      refine bodyPost_ret (v := .agg #[.int .u64 (lo q.al), .int .u64 (hi q.al), .int .u64 (lo q.no), .int .u64 (hi q.no)]) (by simp [results, Tryz.results59, go_sem, c0, c1, c2, c3]) rfl ⟨q, rfl, hal, ?_, ?_⟩
      · exact ((((hS.set (by dsimp only; omega) (by dsimp only; omega) _).set (by dsimp only; omega) (by dsimp only; omega) _).set (by dsimp only; omega) (by dsimp only; omega) _).set (by dsimp only; omega) (by dsimp only; omega) _).up (by omega) (by omega)
      · exact ((((hw.setOut (Nat.le_refl _) _).setOut (Nat.le_refl _) _).setOut (Nat.le_refl _) _).setOut (Nat.le_refl _) _)
    | true =>
      go_wp2_with fail
      refine Calls.mono (spec_l01Any base b _ wa hS (by omega)) ?_
      rintro e wb ⟨m9, rfl, hSa, hWa⟩
      replace hQ := hQ.win hWa (.inr (by omega))
      replace hZ := hZ.win hWa (.inr (by omega))
      replace hw := hw.trans hWa
      replace hS := hSa
      clear hWa hSa
      have y0 : wb.cell? ⟨w.heap.size + 1, 0, none⟩ = some (.int .u64 (lo q.al)) := hQ.cell 0
      have y1 : wb.cell? ⟨w.heap.size + 1, 1, none⟩ = some (.int .u64 (hi q.al)) := hQ.cell 1
      have y2 : wb.cell? ⟨w.heap.size + 1, 2, none⟩ = some (.int .u64 (lo q.no)) := hQ.cell 2
      have y3 : wb.cell? ⟨w.heap.size + 1, 3, none⟩ = some (.int .u64 (hi q.no)) := hQ.cell 3
      have ly := hQ.lt
      have z0 : wb.cell? ⟨w.heap.size, 0, none⟩ = some (.int .u64 0) := hZ.cell 0
      have z1 : wb.cell? ⟨w.heap.size, 1, none⟩ = some (.int .u64 0) := hZ.cell 1
      have z2 : wb.cell? ⟨w.heap.size, 2, none⟩ = some (.int .u64 0) := hZ.cell 2
      have z3 : wb.cell? ⟨w.heap.size, 3, none⟩ = some (.int .u64 0) := hZ.cell 3
      have lz := hZ.lt
      have f2 := hQ.frozen 2
      have f3 := hQ.frozen 3
      have g0 := hZ.frozen 0
      have g1 := hZ.frozen 1
      have g2 := hZ.frozen 2
      have g3 := hZ.frozen 3
      go_wp2
      have hZf := (((((hZ.setOther (p := ⟨w.heap.size + 1, 2, none⟩) (by dsimp only; omega) (.int .u64 (lo m9))).setOther (p := ⟨w.heap.size + 1, 3, none⟩) (by dsimp only; omega) (.int .u64 (hi m9))).set 0 (.int .u64 (lo q.al))).set 1 (.int .u64 (hi q.al))).set 2 (.int .u64 (lo m9))).set 3 (.int .u64 (hi m9))
      clear y0 y1 y2 y3 z0 z1 z2 z3 f2 f3 g0 g1 g2 g3
      have c0 : World.cell? _ ⟨w.heap.size, 0, none⟩ = some (.int .u64 (lo q.al)) := hZf.cell 0
      have c1 : World.cell? _ ⟨w.heap.size, 1, none⟩ = some (.int .u64 (hi q.al)) := hZf.cell 1
      have c2 : World.cell? _ ⟨w.heap.size, 2, none⟩ = some (.int .u64 (lo m9)) := hZf.cell 2
      have c3 : World.cell? _ ⟨w.heap.size, 3, none⟩ = some (.int .u64 (hi m9)) := hZf.cell 3
      refine bodyPost_ret (v := .agg #[.int .u64 (lo q.al), .int .u64 (hi q.al), .int .u64 (lo m9), .int .u64 (hi m9)]) (by simp [results, Tryz.results59, go_sem, c0, c1, c2, c3]) rfl ⟨⟨q.al, m9⟩, rfl, hal, ?_, ?_⟩
      · exact ((((((hS.set (by dsimp only; omega) (by dsimp only; omega) _).set (by dsimp only; omega) (by dsimp only; omega) _).set (by dsimp only; omega) (by dsimp only; omega) _).set (by dsimp only; omega) (by dsimp only; omega) _).set (by dsimp only; omega) (by dsimp only; omega) _).set (by dsimp only; omega) (by dsimp only; omega) _).up (by omega) (by omega)
      · exact ((((((hw.setOut (by dsimp only; omega) _).setOut (by dsimp only; omega) _).setOut (by dsimp only; omega) _).setOut (by dsimp only; omega) _).setOut (by dsimp only; omega) _).setOut (by dsimp only; omega) _)
  · have hF6 := hFa w6 hL1
    have hle := fun W => spec_l01Less pt cv W
    generalize mless pt cv = nn at hle
    have halc := hcm
    clear y0 y1 y2 y3 f0 f1 f2 f3 ly
    go_wp2
    refine wp_region_ext_tail 6 6 (by kernel_rfl) (by kernel_rfl) (by intro d _ _ _ _ h; cases d <;> exact h) ?_
    simp only [List.take_succ_cons, List.take_zero, List.drop_succ_cons, List.drop_zero]
    repeat (first | go_big_quiet_step ((first | (go_at_call 49; with_reducible exact Calls.ext_all (fun W hE => hpt W (hF6.ext hE))) | (go_at_call 48; with_reducible exact Calls.ext_of (hle _)))) | quiet_step ((first | (go_at_call 49; with_reducible exact Calls.ext_all (fun W hE => hpt W (hF6.ext hE))) | (go_at_call 48; with_reducible exact Calls.ext_of (hle _)))))
    refine wpQuiet_nil ?_
    intro w7 hq7
    have hb7 := ext_of_class hq7
    clear hq7
    obtain ⟨hc7, hf7, hz7⟩ := bcell3 hb7
    try simp at hz7
    replace hQ := hQ.ext hb7
    replace hZ := hZ.ext hb7
    replace hS := hS.ext hb7
    replace hw := hw.ext hb7
    clear hc7 hf7 hb7 hF6
    have y0 : w7.cell? ⟨w.heap.size + 1, 0, none⟩ = some (.int .u64 0) := hQ.cell 0
    have y1 : w7.cell? ⟨w.heap.size + 1, 1, none⟩ = some (.int .u64 0) := hQ.cell 1
    have y2 : w7.cell? ⟨w.heap.size + 1, 2, none⟩ = some (.int .u64 0) := hQ.cell 2
    have y3 : w7.cell? ⟨w.heap.size + 1, 3, none⟩ = some (.int .u64 0) := hQ.cell 3
    have ly := hQ.lt
    have f0 := hQ.frozen 0
    have f1 := hQ.frozen 1
    have f2 := hQ.frozen 2
    have f3 := hQ.frozen 3
    have hQ0 : BoxAt _ (w.heap.size + 1) #[.int .u64 (lo 0), .int .u64 (hi 0), .int .u64 (lo 0), .int .u64 (hi 0)] 44 := hQ
    have kQ := ((((hQ0.set 0 (.int .u64 (lo cv))).set 1 (.int .u64 (hi cv))).set 2 (.int .u64 (lo nn))).set 3 (.int .u64 (hi nn)))
    have kZ := ((((hZ.setOther (p := ⟨w.heap.size + 1, 0, none⟩) (by dsimp only; omega) (.int .u64 (lo cv))).setOther (p := ⟨w.heap.size + 1, 1, none⟩) (by dsimp only; omega) (.int .u64 (hi cv))).setOther (p := ⟨w.heap.size + 1, 2, none⟩) (by dsimp only; omega) (.int .u64 (lo nn))).setOther (p := ⟨w.heap.size + 1, 3, none⟩) (by dsimp only; omega) (.int .u64 (hi nn)))
    have kS := ((((hS.set (p := ⟨w.heap.size + 1, 0, none⟩) (by dsimp only; omega) (by dsimp only; omega) (.int .u64 (lo cv))).set (p := ⟨w.heap.size + 1, 1, none⟩) (by dsimp only; omega) (by dsimp only; omega) (.int .u64 (hi cv))).set (p := ⟨w.heap.size + 1, 2, none⟩) (by dsimp only; omega) (by dsimp only; omega) (.int .u64 (lo nn))).set (p := ⟨w.heap.size + 1, 3, none⟩) (by dsimp only; omega) (by dsimp only; omega) (.int .u64 (hi nn)))
    have kw := ((((hw.setOut (p := ⟨w.heap.size + 1, 0, none⟩) (by dsimp only; omega) (.int .u64 (lo cv))).setOut (p := ⟨w.heap.size + 1, 1, none⟩) (by dsimp only; omega) (.int .u64 (hi cv))).setOut (p := ⟨w.heap.size + 1, 2, none⟩) (by dsimp only; omega) (.int .u64 (lo nn))).setOut (p := ⟨w.heap.size + 1, 3, none⟩) (by dsimp only; omega) (.int .u64 (hi nn)))
    go_wp2_with fail
    refine intro_world (R := fun W => Calls _ _ _ W _) (fun W hW => ?_)
    rw [← hW] at kQ kZ kS kw
    clear hW hQ0 hQ hZ hS hw y0 y1 y2 y3 f0 f1 f2 f3 ly
    have hQ : BoxAt W (w.heap.size + 1) #[.int .u64 (lo (⟨cv, nn⟩ : Qry).al), .int .u64 (hi (⟨cv, nn⟩ : Qry).al), .int .u64 (lo (⟨cv, nn⟩ : Qry).no), .int .u64 (hi (⟨cv, nn⟩ : Qry).no)] 44 := kQ
    have hZ := kZ
    have hS := kS.up (show _ ≤ n + 100 by omega) (by omega)
    have hw := kw
    clear kQ kZ kS kw
    clear hM m0 m1 lm
    have hal : isMaskB (⟨cv, nn⟩ : Qry).al = true := halc
    clear halc
    generalize (⟨cv, nn⟩ : Qry) = q at hQ hal
    go_wp2_with fail
    refine Calls.mono (src_one base b _ 20 (by omega) W hS (by omega)) ?_
    rintro e wa ⟨one, rfl, hSa, hWa⟩
    replace hQ := hQ.win hWa (.inr (by omega))
    replace hZ := hZ.win hWa (.inr (by omega))
    replace hw := hw.trans hWa
    replace hS := hSa
    clear hWa hSa
    cases one with
    | false =>
      have y0 : wa.cell? ⟨w.heap.size + 1, 0, none⟩ = some (.int .u64 (lo q.al)) := hQ.cell 0
      have y1 : wa.cell? ⟨w.heap.size + 1, 1, none⟩ = some (.int .u64 (hi q.al)) := hQ.cell 1
      have y2 : wa.cell? ⟨w.heap.size + 1, 2, none⟩ = some (.int .u64 (lo q.no)) := hQ.cell 2
      have y3 : wa.cell? ⟨w.heap.size + 1, 3, none⟩ = some (.int .u64 (hi q.no)) := hQ.cell 3
      have ly := hQ.lt
      have z0 : wa.cell? ⟨w.heap.size, 0, none⟩ = some (.int .u64 0) := hZ.cell 0
      have z1 : wa.cell? ⟨w.heap.size, 1, none⟩ = some (.int .u64 0) := hZ.cell 1
      have z2 : wa.cell? ⟨w.heap.size, 2, none⟩ = some (.int .u64 0) := hZ.cell 2
      have z3 : wa.cell? ⟨w.heap.size, 3, none⟩ = some (.int .u64 0) := hZ.cell 3
      have lz := hZ.lt
      have g0 := hZ.frozen 0
      have g1 := hZ.frozen 1
      have g2 := hZ.frozen 2
      have g3 := hZ.frozen 3
      go_wp2
      have hZf := ((((hZ.set 0 (.int .u64 (lo q.al))).set 1 (.int .u64 (hi q.al))).set 2 (.int .u64 (lo q.no))).set 3 (.int .u64 (hi q.no)))
      clear y0 y1 y2 y3 z0 z1 z2 z3 g0 g1 g2 g3
      have c0 : World.cell? _ ⟨w.heap.size, 0, none⟩ = some (.int .u64 (lo q.al)) := hZf.cell 0
      have c1 : World.cell? _ ⟨w.heap.size, 1, none⟩ = some (.int .u64 (hi q.al)) := hZf.cell 1
      have c2 : World.cell? _ ⟨w.heap.size, 2, none⟩ = some (.int .u64 (lo q.no)) := hZf.cell 2
      have c3 : World.cell? _ ⟨w.heap.size, 3, none⟩ = some (.int .u64 (hi q.no)) := hZf.cell 3
      refine bodyPost_ret (v := .agg #[.int .u64 (lo q.al), .int .u64 (hi q.al), .int .u64 (lo q.no), .int .u64 (hi q.no)]) (by simp [results, Tryz.results59, go_sem, c0, c1, c2, c3]) rfl ⟨q, rfl, hal, ?_, ?_⟩
      · exact ((((hS.set (by dsimp only; omega) (by dsimp only; omega) _).set (by dsimp only; omega) (by dsimp only; omega) _).set (by dsimp only; omega) (by dsimp only; omega) _).set (by dsimp only; omega) (by dsimp only; omega) _).up (by omega) (by omega)
      · exact ((((hw.setOut (Nat.le_refl _) _).setOut (Nat.le_refl _) _).setOut (Nat.le_refl _) _).setOut (Nat.le_refl _) _)
    | true =>
      go_wp2_with fail
      refine Calls.mono (spec_l01Any base b _ wa hS (by omega)) ?_
      rintro e wb ⟨m9, rfl, hSa, hWa⟩
      replace hQ := hQ.win hWa (.inr (by omega))
      replace hZ := hZ.win hWa (.inr (by omega))
      replace hw := hw.trans hWa
      replace hS := hSa
      clear hWa hSa
      have y0 : wb.cell? ⟨w.heap.size + 1, 0, none⟩ = some (.int .u64 (lo q.al)) := hQ.cell 0
      have y1 : wb.cell? ⟨w.heap.size + 1, 1, none⟩ = some (.int .u64 (hi q.al)) := hQ.cell 1
      have y2 : wb.cell? ⟨w.heap.size + 1, 2, none⟩ = some (.int .u64 (lo q.no)) := hQ.cell 2
      have y3 : wb.cell? ⟨w.heap.size + 1, 3, none⟩ = some (.int .u64 (hi q.no)) := hQ.cell 3
      have ly := hQ.lt
      have z0 : wb.cell? ⟨w.heap.size, 0, none⟩ = some (.int .u64 0) := hZ.cell 0
      have z1 : wb.cell? ⟨w.heap.size, 1, none⟩ = some (.int .u64 0) := hZ.cell 1
      have z2 : wb.cell? ⟨w.heap.size, 2, none⟩ = some (.int .u64 0) := hZ.cell 2
      have z3 : wb.cell? ⟨w.heap.size, 3, none⟩ = some (.int .u64 0) := hZ.cell 3
      have lz := hZ.lt
      have f2 := hQ.frozen 2
      have f3 := hQ.frozen 3
      have g0 := hZ.frozen 0
      have g1 := hZ.frozen 1
      have g2 := hZ.frozen 2
      have g3 := hZ.frozen 3
      go_wp2
      have hZf := (((((hZ.setOther (p := ⟨w.heap.size + 1, 2, none⟩) (by dsimp only; omega) (.int .u64 (lo m9))).setOther (p := ⟨w.heap.size + 1, 3, none⟩) (by dsimp only; omega) (.int .u64 (hi m9))).set 0 (.int .u64 (lo q.al))).set 1 (.int .u64 (hi q.al))).set 2 (.int .u64 (lo m9))).set 3 (.int .u64 (hi m9))
      clear y0 y1 y2 y3 z0 z1 z2 z3 f2 f3 g0 g1 g2 g3
      have c0 : World.cell? _ ⟨w.heap.size, 0, none⟩ = some (.int .u64 (lo q.al)) := hZf.cell 0
      have c1 : World.cell? _ ⟨w.heap.size, 1, none⟩ = some (.int .u64 (hi q.al)) := hZf.cell 1
      have c2 : World.cell? _ ⟨w.heap.size, 2, none⟩ = some (.int .u64 (lo m9)) := hZf.cell 2
      have c3 : World.cell? _ ⟨w.heap.size, 3, none⟩ = some (.int .u64 (hi m9)) := hZf.cell 3
      refine bodyPost_ret (v := .agg #[.int .u64 (lo q.al), .int .u64 (hi q.al), .int .u64 (lo m9), .int .u64 (hi m9)]) (by simp [results, Tryz.results59, go_sem, c0, c1, c2, c3]) rfl ⟨⟨q.al, m9⟩, rfl, hal, ?_, ?_⟩
      · exact ((((((hS.set (by dsimp only; omega) (by dsimp only; omega) _).set (by dsimp only; omega) (by dsimp only; omega) _).set (by dsimp only; omega) (by dsimp only; omega) _).set (by dsimp only; omega) (by dsimp only; omega) _).set (by dsimp only; omega) (by dsimp only; omega) _).set (by dsimp only; omega) (by dsimp only; omega) _).up (by omega) (by omega)
      · exact ((((((hw.setOut (by dsimp only; omega) _).setOut (by dsimp only; omega) _).setOut (by dsimp only; omega) _).setOut (by dsimp only; omega) _).setOut (by dsimp only; omega) _).setOut (by dsimp only; omega) _)
  · have halc := sm_zeroD
    have hQ0 : BoxAt _ (w.heap.size + 1) #[.int .u64 (lo 0), .int .u64 (hi 0), .int .u64 (lo 0), .int .u64 (hi 0)] 44 := hQ
    have kQ := ((hQ0.set 2 (.int .u64 (lo cv))).set 3 (.int .u64 (hi cv)))
    have kZ := ((hZ.setOther (p := ⟨w.heap.size + 1, 2, none⟩) (by dsimp only; omega) (.int .u64 (lo cv))).setOther (p := ⟨w.heap.size + 1, 3, none⟩) (by dsimp only; omega) (.int .u64 (hi cv)))
    have kS := ((hS.set (p := ⟨w.heap.size + 1, 2, none⟩) (by dsimp only; omega) (by dsimp only; omega) (.int .u64 (lo cv))).set (p := ⟨w.heap.size + 1, 3, none⟩) (by dsimp only; omega) (by dsimp only; omega) (.int .u64 (hi cv)))
    have kw := ((hw.setOut (p := ⟨w.heap.size + 1, 2, none⟩) (by dsimp only; omega) (.int .u64 (lo cv))).setOut (p := ⟨w.heap.size + 1, 3, none⟩) (by dsimp only; omega) (.int .u64 (hi cv)))
    go_wp2_with fail
    refine intro_world (R := fun W => Calls _ _ _ W _) (fun W hW => ?_)
    rw [← hW] at kQ kZ kS kw
    clear hW hQ0 hQ hZ hS hw y0 y1 y2 y3 f0 f1 f2 f3 ly
    have hQ : BoxAt W (w.heap.size + 1) #[.int .u64 (lo (⟨0, cv⟩ : Qry).al), .int .u64 (hi (⟨0, cv⟩ : Qry).al), .int .u64 (lo (⟨0, cv⟩ : Qry).no), .int .u64 (hi (⟨0, cv⟩ : Qry).no)] 44 := kQ
    have hZ := kZ
    have hS := kS.up (show _ ≤ n + 100 by omega) (by omega)
    have hw := kw
    clear kQ kZ kS kw
    clear hM m0 m1 lm
    have hal : isMaskB (⟨0, cv⟩ : Qry).al = true := halc
    clear halc
    generalize (⟨0, cv⟩ : Qry) = q at hQ hal
    go_wp2_with fail
    refine Calls.mono (src_one base b _ 20 (by omega) W hS (by omega)) ?_
    rintro e wa ⟨one, rfl, hSa, hWa⟩
    replace hQ := hQ.win hWa (.inr (by omega))
    replace hZ := hZ.win hWa (.inr (by omega))
    replace hw := hw.trans hWa
    replace hS := hSa
    clear hWa hSa
    cases one with
    | false =>
      have y0 : wa.cell? ⟨w.heap.size + 1, 0, none⟩ = some (.int .u64 (lo q.al)) := hQ.cell 0
      have y1 : wa.cell? ⟨w.heap.size + 1, 1, none⟩ = some (.int .u64 (hi q.al)) := hQ.cell 1
      have y2 : wa.cell? ⟨w.heap.size + 1, 2, none⟩ = some (.int .u64 (lo q.no)) := hQ.cell 2
      have y3 : wa.cell? ⟨w.heap.size + 1, 3, none⟩ = some (.int .u64 (hi q.no)) := hQ.cell 3
      have ly := hQ.lt
      have z0 : wa.cell? ⟨w.heap.size, 0, none⟩ = some (.int .u64 0) := hZ.cell 0
      have z1 : wa.cell? ⟨w.heap.size, 1, none⟩ = some (.int .u64 0) := hZ.cell 1
      have z2 : wa.cell? ⟨w.heap.size, 2, none⟩ = some (.int .u64 0) := hZ.cell 2
      have z3 : wa.cell? ⟨w.heap.size, 3, none⟩ = some (.int .u64 0) := hZ.cell 3
      have lz := hZ.lt
      have g0 := hZ.frozen 0
      have g1 := hZ.frozen 1
      have g2 := hZ.frozen 2
      have g3 := hZ.frozen 3
      go_wp2
      have hZf := ((((hZ.set 0 (.int .u64 (lo q.al))).set 1 (.int .u64 (hi q.al))).set 2 (.int .u64 (lo q.no))).set 3 (.int .u64 (hi q.no)))
      clear y0 y1 y2 y3 z0 z1 z2 z3 g0 g1 g2 g3
      have c0 : World.cell? _ ⟨w.heap.size, 0, none⟩ = some (.int .u64 (lo q.al)) := hZf.cell 0
      have c1 : World.cell? _ ⟨w.heap.size, 1, none⟩ = some (.int .u64 (hi q.al)) := hZf.cell 1
      have c2 : World.cell? _ ⟨w.heap.size, 2, none⟩ = some (.int .u64 (lo q.no)) := hZf.cell 2
      have c3 : World.cell? _ ⟨w.heap.size, 3, none⟩ = some (.int .u64 (hi q.no)) := hZf.cell 3
      refine bodyPost_ret (v := .agg #[.int .u64 (lo q.al), .int .u64 (hi q.al), .int .u64 (lo q.no), .int .u64 (hi q.no)]) (by simp [results, Tryz.results59, go_sem, c0, c1, c2, c3]) rfl ⟨q, rfl, hal, ?_, ?_⟩
      · exact ((((hS.set (by dsimp only; omega) (by dsimp only; omega) _).set (by dsimp only; omega) (by dsimp only; omega) _).set (by dsimp only; omega) (by dsimp only; omega) _).set (by dsimp only; omega) (by dsimp only; omega) _).up (by omega) (by omega)
      · exact ((((hw.setOut (Nat.le_refl _) _).setOut (Nat.le_refl _) _).setOut (Nat.le_refl _) _).setOut (Nat.le_refl _) _)
    | true =>
      go_wp2_with fail
      refine Calls.mono (spec_l01Any base b _ wa hS (by omega)) ?_
      rintro e wb ⟨m9, rfl, hSa, hWa⟩
      replace hQ := hQ.win hWa (.inr (by omega))
      replace hZ := hZ.win hWa (.inr (by omega))
      replace hw := hw.trans hWa
      replace hS := hSa
      clear hWa hSa
      have y0 : wb.cell? ⟨w.heap.size + 1, 0, none⟩ = some (.int .u64 (lo q.al)) := hQ.cell 0
      have y1 : wb.cell? ⟨w.heap.size + 1, 1, none⟩ = some (.int .u64 (hi q.al)) := hQ.cell 1
      have y2 : wb.cell? ⟨w.heap.size + 1, 2, none⟩ = some (.int .u64 (lo q.no)) := hQ.cell 2
      have y3 : wb.cell? ⟨w.heap.size + 1, 3, none⟩ = some (.int .u64 (hi q.no)) := hQ.cell 3
      have ly := hQ.lt
      have z0 : wb.cell? ⟨w.heap.size, 0, none⟩ = some (.int .u64 0) := hZ.cell 0
      have z1 : wb.cell? ⟨w.heap.size, 1, none⟩ = some (.int .u64 0) := hZ.cell 1
      have z2 : wb.cell? ⟨w.heap.size, 2, none⟩ = some (.int .u64 0) := hZ.cell 2
      have z3 : wb.cell? ⟨w.heap.size, 3, none⟩ = some (.int .u64 0) := hZ.cell 3
      have lz := hZ.lt
      have f2 := hQ.frozen 2
      have f3 := hQ.frozen 3
      have g0 := hZ.frozen 0
      have g1 := hZ.frozen 1
      have g2 := hZ.frozen 2
      have g3 := hZ.frozen 3
      go_wp2
      have hZf := (((((hZ.setOther (p := ⟨w.heap.size + 1, 2, none⟩) (by dsimp only; omega) (.int .u64 (lo m9))).setOther (p := ⟨w.heap.size + 1, 3, none⟩) (by dsimp only; omega) (.int .u64 (hi m9))).set 0 (.int .u64 (lo q.al))).set 1 (.int .u64 (hi q.al))).set 2 (.int .u64 (lo m9))).set 3 (.int .u64 (hi m9))
      clear y0 y1 y2 y3 z0 z1 z2 z3 f2 f3 g0 g1 g2 g3
      have c0 : World.cell? _ ⟨w.heap.size, 0, none⟩ = some (.int .u64 (lo q.al)) := hZf.cell 0
      have c1 : World.cell? _ ⟨w.heap.size, 1, none⟩ = some (.int .u64 (hi q.al)) := hZf.cell 1
      have c2 : World.cell? _ ⟨w.heap.size, 2, none⟩ = some (.int .u64 (lo m9)) := hZf.cell 2
      have c3 : World.cell? _ ⟨w.heap.size, 3, none⟩ = some (.int .u64 (hi m9)) := hZf.cell 3
      refine bodyPost_ret (v := .agg #[.int .u64 (lo q.al), .int .u64 (hi q.al), .int .u64 (lo m9), .int .u64 (hi m9)]) (by simp [results, Tryz.results59, go_sem, c0, c1, c2, c3]) rfl ⟨⟨q.al, m9⟩, rfl, hal, ?_, ?_⟩
      · exact ((((((hS.set (by dsimp only; omega) (by dsimp only; omega) _).set (by dsimp only; omega) (by dsimp only; omega) _).set (by dsimp only; omega) (by dsimp only; omega) _).set (by dsimp only; omega) (by dsimp only; omega) _).set (by dsimp only; omega) (by dsimp only; omega) _).set (by dsimp only; omega) (by dsimp only; omega) _).up (by omega) (by omega)
      · exact ((((((hw.setOut (by dsimp only; omega) _).setOut (by dsimp only; omega) _).setOut (by dsimp only; omega) _).setOut (by dsimp only; omega) _).setOut (by dsimp only; omega) _).setOut (by dsimp only; omega) _)
  · clear y0 y1 y2 y3 f0 f1 f2 f3 ly m0 m1 lm hM
    go_wp2_with fail
    refine Calls.mono (src_pick base b _ 96 (by omega) w6 hS (by omega)) ?_
    rintro e w7 ⟨h, rfl, r0, r1, hSa, hWa⟩
    replace hQ := hQ.win hWa (.inr (by omega))
    replace hZ := hZ.win hWa (.inr (by omega))
    replace hw := hw.trans hWa
    replace hS := hSa
    clear hSa hWa
    have hbm := sm_bitD r0 (show h < 96 by omega)
    have hbt := fun W => spec_l01Bit h (by omega) (by omega) W
    generalize mbit h = bt at hbm hbt
    go_wp2_with fail
    refine Calls.mono (hbt w7) ?_
    rintro e w8 ⟨rfl, hb8⟩
    replace hQ := hQ.ext hb8
    replace hZ := hZ.ext hb8
    replace hS := hS.ext hb8
    replace hw := hw.ext hb8
    have halc := hbm
    clear hb8 hbt
    have y0 : w8.cell? ⟨w.heap.size + 1, 0, none⟩ = some (.int .u64 0) := hQ.cell 0
    have y1 : w8.cell? ⟨w.heap.size + 1, 1, none⟩ = some (.int .u64 0) := hQ.cell 1
    have y2 : w8.cell? ⟨w.heap.size + 1, 2, none⟩ = some (.int .u64 0) := hQ.cell 2
    have y3 : w8.cell? ⟨w.heap.size + 1, 3, none⟩ = some (.int .u64 0) := hQ.cell 3
    have ly := hQ.lt
    have f0 := hQ.frozen 0
    have f1 := hQ.frozen 1
    have f2 := hQ.frozen 2
    have f3 := hQ.frozen 3
    have hQ0 : BoxAt _ (w.heap.size + 1) #[.int .u64 (lo 0), .int .u64 (hi 0), .int .u64 (lo 0), .int .u64 (hi 0)] 44 := hQ
    have kQ := ((hQ0.set 0 (.int .u64 (lo bt))).set 1 (.int .u64 (hi bt)))
    have kZ := ((hZ.setOther (p := ⟨w.heap.size + 1, 0, none⟩) (by dsimp only; omega) (.int .u64 (lo bt))).setOther (p := ⟨w.heap.size + 1, 1, none⟩) (by dsimp only; omega) (.int .u64 (hi bt)))
    have kS := ((hS.set (p := ⟨w.heap.size + 1, 0, none⟩) (by dsimp only; omega) (by dsimp only; omega) (.int .u64 (lo bt))).set (p := ⟨w.heap.size + 1, 1, none⟩) (by dsimp only; omega) (by dsimp only; omega) (.int .u64 (hi bt)))
    have kw := ((hw.setOut (p := ⟨w.heap.size + 1, 0, none⟩) (by dsimp only; omega) (.int .u64 (lo bt))).setOut (p := ⟨w.heap.size + 1, 1, none⟩) (by dsimp only; omega) (.int .u64 (hi bt)))
    go_wp2_with fail
    refine intro_world (R := fun W => Calls _ _ _ W _) (fun W hW => ?_)
    rw [← hW] at kQ kZ kS kw
    clear hW hQ0 hQ hZ hS hw y0 y1 y2 y3 f0 f1 f2 f3 ly
    have hQ : BoxAt W (w.heap.size + 1) #[.int .u64 (lo (⟨bt, 0⟩ : Qry).al), .int .u64 (hi (⟨bt, 0⟩ : Qry).al), .int .u64 (lo (⟨bt, 0⟩ : Qry).no), .int .u64 (hi (⟨bt, 0⟩ : Qry).no)] 44 := kQ
    have hZ := kZ
    have hS := kS.up (show _ ≤ n + 100 by omega) (by omega)
    have hw := kw
    clear kQ kZ kS kw
    have hal : isMaskB (⟨bt, 0⟩ : Qry).al = true := halc
    clear halc
    generalize (⟨bt, 0⟩ : Qry) = q at hQ hal
    go_wp2_with fail
    refine Calls.mono (src_one base b _ 20 (by omega) W hS (by omega)) ?_
    rintro e wa ⟨one, rfl, hSa, hWa⟩
    replace hQ := hQ.win hWa (.inr (by omega))
    replace hZ := hZ.win hWa (.inr (by omega))
    replace hw := hw.trans hWa
    replace hS := hSa
    clear hWa hSa
    cases one with
    | false =>
      have y0 : wa.cell? ⟨w.heap.size + 1, 0, none⟩ = some (.int .u64 (lo q.al)) := hQ.cell 0
      have y1 : wa.cell? ⟨w.heap.size + 1, 1, none⟩ = some (.int .u64 (hi q.al)) := hQ.cell 1
      have y2 : wa.cell? ⟨w.heap.size + 1, 2, none⟩ = some (.int .u64 (lo q.no)) := hQ.cell 2
      have y3 : wa.cell? ⟨w.heap.size + 1, 3, none⟩ = some (.int .u64 (hi q.no)) := hQ.cell 3
      have ly := hQ.lt
      have z0 : wa.cell? ⟨w.heap.size, 0, none⟩ = some (.int .u64 0) := hZ.cell 0
      have z1 : wa.cell? ⟨w.heap.size, 1, none⟩ = some (.int .u64 0) := hZ.cell 1
      have z2 : wa.cell? ⟨w.heap.size, 2, none⟩ = some (.int .u64 0) := hZ.cell 2
      have z3 : wa.cell? ⟨w.heap.size, 3, none⟩ = some (.int .u64 0) := hZ.cell 3
      have lz := hZ.lt
      have g0 := hZ.frozen 0
      have g1 := hZ.frozen 1
      have g2 := hZ.frozen 2
      have g3 := hZ.frozen 3
      go_wp2
      have hZf := ((((hZ.set 0 (.int .u64 (lo q.al))).set 1 (.int .u64 (hi q.al))).set 2 (.int .u64 (lo q.no))).set 3 (.int .u64 (hi q.no)))
      clear y0 y1 y2 y3 z0 z1 z2 z3 g0 g1 g2 g3
      have c0 : World.cell? _ ⟨w.heap.size, 0, none⟩ = some (.int .u64 (lo q.al)) := hZf.cell 0
      have c1 : World.cell? _ ⟨w.heap.size, 1, none⟩ = some (.int .u64 (hi q.al)) := hZf.cell 1
      have c2 : World.cell? _ ⟨w.heap.size, 2, none⟩ = some (.int .u64 (lo q.no)) := hZf.cell 2
      have c3 : World.cell? _ ⟨w.heap.size, 3, none⟩ = some (.int .u64 (hi q.no)) := hZf.cell 3
      refine bodyPost_ret (v := .agg #[.int .u64 (lo q.al), .int .u64 (hi q.al), .int .u64 (lo q.no), .int .u64 (hi q.no)]) (by simp [results, Tryz.results59, go_sem, c0, c1, c2, c3]) rfl ⟨q, rfl, hal, ?_, ?_⟩
      · exact ((((hS.set (by dsimp only; omega) (by dsimp only; omega) _).set (by dsimp only; omega) (by dsimp only; omega) _).set (by dsimp only; omega) (by dsimp only; omega) _).set (by dsimp only; omega) (by dsimp only; omega) _).up (by omega) (by omega)
      · exact ((((hw.setOut (Nat.le_refl _) _).setOut (Nat.le_refl _) _).setOut (Nat.le_refl _) _).setOut (Nat.le_refl _) _)
    | true =>
      go_wp2_with fail
      refine Calls.mono (spec_l01Any base b _ wa hS (by omega)) ?_
      rintro e wb ⟨m9, rfl, hSa, hWa⟩
      replace hQ := hQ.win hWa (.inr (by omega))
      replace hZ := hZ.win hWa (.inr (by omega))
      replace hw := hw.trans hWa
      replace hS := hSa
      clear hWa hSa
      have y0 : wb.cell? ⟨w.heap.size + 1, 0, none⟩ = some (.int .u64 (lo q.al)) := hQ.cell 0
      have y1 : wb.cell? ⟨w.heap.size + 1, 1, none⟩ = some (.int .u64 (hi q.al)) := hQ.cell 1
      have y2 : wb.cell? ⟨w.heap.size + 1, 2, none⟩ = some (.int .u64 (lo q.no)) := hQ.cell 2
      have y3 : wb.cell? ⟨w.heap.size + 1, 3, none⟩ = some (.int .u64 (hi q.no)) := hQ.cell 3
      have ly := hQ.lt
      have z0 : wb.cell? ⟨w.heap.size, 0, none⟩ = some (.int .u64 0) := hZ.cell 0
      have z1 : wb.cell? ⟨w.heap.size, 1, none⟩ = some (.int .u64 0) := hZ.cell 1
      have z2 : wb.cell? ⟨w.heap.size, 2, none⟩ = some (.int .u64 0) := hZ.cell 2
      have z3 : wb.cell? ⟨w.heap.size, 3, none⟩ = some (.int .u64 0) := hZ.cell 3
      have lz := hZ.lt
      have f2 := hQ.frozen 2
      have f3 := hQ.frozen 3
      have g0 := hZ.frozen 0
      have g1 := hZ.frozen 1
      have g2 := hZ.frozen 2
      have g3 := hZ.frozen 3
      go_wp2
      have hZf := (((((hZ.setOther (p := ⟨w.heap.size + 1, 2, none⟩) (by dsimp only; omega) (.int .u64 (lo m9))).setOther (p := ⟨w.heap.size + 1, 3, none⟩) (by dsimp only; omega) (.int .u64 (hi m9))).set 0 (.int .u64 (lo q.al))).set 1 (.int .u64 (hi q.al))).set 2 (.int .u64 (lo m9))).set 3 (.int .u64 (hi m9))
      clear y0 y1 y2 y3 z0 z1 z2 z3 f2 f3 g0 g1 g2 g3
      have c0 : World.cell? _ ⟨w.heap.size, 0, none⟩ = some (.int .u64 (lo q.al)) := hZf.cell 0
      have c1 : World.cell? _ ⟨w.heap.size, 1, none⟩ = some (.int .u64 (hi q.al)) := hZf.cell 1
      have c2 : World.cell? _ ⟨w.heap.size, 2, none⟩ = some (.int .u64 (lo m9)) := hZf.cell 2
      have c3 : World.cell? _ ⟨w.heap.size, 3, none⟩ = some (.int .u64 (hi m9)) := hZf.cell 3
      refine bodyPost_ret (v := .agg #[.int .u64 (lo q.al), .int .u64 (hi q.al), .int .u64 (lo m9), .int .u64 (hi m9)]) (by simp [results, Tryz.results59, go_sem, c0, c1, c2, c3]) rfl ⟨⟨q.al, m9⟩, rfl, hal, ?_, ?_⟩
      · exact ((((((hS.set (by dsimp only; omega) (by dsimp only; omega) _).set (by dsimp only; omega) (by dsimp only; omega) _).set (by dsimp only; omega) (by dsimp only; omega) _).set (by dsimp only; omega) (by dsimp only; omega) _).set (by dsimp only; omega) (by dsimp only; omega) _).set (by dsimp only; omega) (by dsimp only; omega) _).up (by omega) (by omega)
      · exact ((((((hw.setOut (by dsimp only; omega) _).setOut (by dsimp only; omega) _).setOut (by dsimp only; omega) _).setOut (by dsimp only; omega) _).setOut (by dsimp only; omega) _).setOut (by dsimp only; omega) _)
set_option maxHeartbeats 1000000 in
theorem spec_A2Query (cs : List UInt8) (A : Option Addr) (cap : Nat) (xs : List Fld) (L : Option Addr) (lcap : Nat) (w : World) (hR : Rd encU8 w A cs) (hn : cs.length ≤ 1099511627776) (hL : Rd encFld w L xs) (h1 : 1 ≤ xs.length) (hx5 : xs.length ≤ 5) (hDs : DrawnS xs) :
    Calls Tryz.prog 23 #[.slice A cs.length cap, .slice L xs.length lcap] w fun e w' => ∃ q : Qry, e = .returned (.agg #[.int .u64 (lo q.al), .int .u64 (hi q.al), .int .u64 (lo q.no), .int .u64 (hi q.no)]) ∧ qryB q = true ∧ Ext w w' := by
  have hf := spec_l00From cs A cap w _ hR hn ((Ext.refl w).alloc (.cells #[.int .u64 0, .int .u64 0, .int .u64 0, .int .u64 0] 44))
  have hZ : BoxAt (w.alloc (.cells #[.int .u64 0, .int .u64 0, .int .u64 0, .int .u64 0] 44)) w.heap.size #[.int .u64 0, .int .u64 0, .int .u64 0, .int .u64 0] 44 := BoxAt.new' rfl
  have hE := (Ext.refl w).alloc (.cells #[.int .u64 0, .int .u64 0, .int .u64 0, .int .u64 0] 44)
  go_enter Tryz.func23, Tryz.ntmps23
  go_wp2_with fail
  refine Calls.mono hf ?_
  rintro e w1 ⟨b, rfl, hS, hb, hE1⟩
  clear hf
  replace hZ := hZ.ext hE1
  replace hE := hE.trans hE1
  simp only [World.size_alloc] at hb
  clear hE1
  have hc := spec_l02Asking _ b 0 xs L lcap w1 hS (by omega) (hL.ext hE) (fun p hp => by have := hL.blk (List.length_pos_iff.1 h1) p hp; omega) h1 hx5 hDs
  go_wp2_with fail
  refine Calls.mono hc ?_
  rintro e w2 ⟨q, rfl, hal, hS2, hW2⟩
  replace hZ := hZ.win hW2 (.inl (by omega))
  replace hE := hE.win hW2 (by omega)
  clear hc hS hS2 hW2
  have hle := fun W => spec_l01Less q.no q.al W
  have hsub : ∀ i : Nat, i < 128 → mhas (mless q.no q.al) i = true → mhas q.al i = false := fun i hi h => by
    rw [mhas_less _ _ _ hi, Bool.and_eq_true, Bool.not_eq_true'] at h
    exact h.2
  generalize mless q.no q.al = nn at hle hsub
  obtain ⟨n2, hm0, hm1, hm2, hm3⟩ := trim_mask nn
  have hgood : qryB ⟨q.al, n2⟩ = true := (qryB_iff _).2 ⟨hal, hm2, fun i hi h => by
    cases h2 : mhas n2 i with
    | false => rfl
    | true => rw [hsub i hi (hm3 i h2)] at h; cases h⟩
  replace hm0 := hd hm0
  replace hm1 := hd hm1
  clear hsub hm2 hm3 hal
  have hQ : BoxAt (w2.alloc (.cells #[.int .u64 (lo q.al), .int .u64 (hi q.al), .int .u64 (lo q.no), .int .u64 (hi q.no)] 44)) w2.heap.size #[.int .u64 (lo q.al), .int .u64 (hi q.al), .int .u64 (lo q.no), .int .u64 (hi q.no)] 44 := BoxAt.new' rfl
  have l2 : w.heap.size < w2.heap.size := hZ.lt
  replace hZ := hZ.alloc (.cells #[.int .u64 (lo q.al), .int .u64 (hi q.al), .int .u64 (lo q.no), .int .u64 (hi q.no)] 44)
  replace hE := hE.alloc (.cells #[.int .u64 (lo q.al), .int .u64 (hi q.al), .int .u64 (lo q.no), .int .u64 (hi q.no)] 44)
  go_wp2_with fail
  refine Calls.mono (hle _) ?_
  rintro e w3 ⟨rfl, hb3⟩
  replace hQ := hQ.ext hb3
  replace hZ := hZ.ext hb3
  replace hE := hE.trans hb3
  clear hb3 hle
  generalize w2.heap.size = bq at hQ l2 ⊢
  have y0 : w3.cell? ⟨bq, 0, none⟩ = some (.int .u64 (lo q.al)) := hQ.cell 0
  have y1 : w3.cell? ⟨bq, 1, none⟩ = some (.int .u64 (hi q.al)) := hQ.cell 1
  have y2 : w3.cell? ⟨bq, 2, none⟩ = some (.int .u64 (lo q.no)) := hQ.cell 2
  have y3 : w3.cell? ⟨bq, 3, none⟩ = some (.int .u64 (hi q.no)) := hQ.cell 3
  have ly := hQ.lt
  have z0 : w3.cell? ⟨w.heap.size, 0, none⟩ = some (.int .u64 0) := hZ.cell 0
  have z1 : w3.cell? ⟨w.heap.size, 1, none⟩ = some (.int .u64 0) := hZ.cell 1
  have z2 : w3.cell? ⟨w.heap.size, 2, none⟩ = some (.int .u64 0) := hZ.cell 2
  have z3 : w3.cell? ⟨w.heap.size, 3, none⟩ = some (.int .u64 0) := hZ.cell 3
  have lz := hZ.lt
  have f2 := hQ.frozen 2
  have f3 := hQ.frozen 3
  have g0 := hZ.frozen 0
  have g1 := hZ.frozen 1
  have g2 := hZ.frozen 2
  have g3 := hZ.frozen 3
  have kQ : BoxAt (((w3.setCell ⟨bq, 2, none⟩ (.int .u64 (lo nn))).setCell ⟨bq, 3, none⟩ (.int .u64 (hi nn))).setCell ⟨bq, 3, none⟩ (.int .u64 (IntKind.u64.wrap (hi nn * 4294967296) / 4294967296))) bq #[.int .u64 (lo q.al), .int .u64 (hi q.al), .int .u64 (lo nn), .int .u64 (IntKind.u64.wrap (hi nn * 4294967296) / 4294967296)] 44 := ((hQ.set 2 (.int .u64 (lo nn))).set 3 (.int .u64 (hi nn))).set 3 (.int .u64 (IntKind.u64.wrap (hi nn * 4294967296) / 4294967296))
  have k0 := kQ.cell 0
  have k1 := kQ.cell 1
  have k2 := kQ.cell 2
  have k3 : World.cell? (((w3.setCell ⟨bq, 2, none⟩ (.int .u64 (lo nn))).setCell ⟨bq, 3, none⟩ (.int .u64 (hi nn))).setCell ⟨bq, 3, none⟩ (.int .u64 (IntKind.u64.wrap (hi nn * 4294967296) / 4294967296))) ⟨bq, 3, none⟩ = some (.int .u64 (IntKind.u64.wrap (hi nn * 4294967296) / 4294967296)) := kQ.cell 3
  clear k0 k1 k2
  go_wp2
  have hZf := (((((((hZ.setOther (p := ⟨bq, 2, none⟩) (by dsimp only; omega) (.int .u64 (lo nn))).setOther (p := ⟨bq, 3, none⟩) (by dsimp only; omega) (.int .u64 (hi nn))).setOther (p := ⟨bq, 3, none⟩) (by dsimp only; omega) (.int .u64 (IntKind.u64.wrap (hi nn * 4294967296) / 4294967296))).set 0 (.int .u64 (lo q.al))).set 1 (.int .u64 (hi q.al))).set 2 (.int .u64 (lo nn))).set 3 (.int .u64 (IntKind.u64.wrap (hi nn * 4294967296) / 4294967296)))
  clear y0 y1 y2 y3 z0 z1 z2 z3 f2 f3 g0 g1 g2 g3 k3 kQ
  have c0 : World.cell? _ ⟨w.heap.size, 0, none⟩ = some (.int .u64 (lo q.al)) := hZf.cell 0
  have c1 : World.cell? _ ⟨w.heap.size, 1, none⟩ = some (.int .u64 (hi q.al)) := hZf.cell 1
  have c2 : World.cell? _ ⟨w.heap.size, 2, none⟩ = some (.int .u64 (lo nn)) := hZf.cell 2
  have c3 : World.cell? _ ⟨w.heap.size, 3, none⟩ = some (.int .u64 (IntKind.u64.wrap (hi nn * 4294967296) / 4294967296)) := hZf.cell 3
  refine bodyPost_ret (v := .agg #[.int .u64 (lo q.al), .int .u64 (hi q.al), .int .u64 (lo nn), .int .u64 (IntKind.u64.wrap (hi nn * 4294967296) / 4294967296)]) (by simp [results, Tryz.results23, go_sem, c0, c1, c2, c3]) rfl ⟨⟨q.al, n2⟩, by rw [hm0.out, hm1.out], hgood, ?_⟩
  exact Ext.set (by dsimp only; omega) (Ext.set (by dsimp only; omega) (Ext.set (by dsimp only; omega) (Ext.set (by dsimp only; omega) (Ext.set (by dsimp only; omega) (Ext.set (by dsimp only; omega) (Ext.set (by dsimp only; omega) hE _) _) _) _) _) _) _
end Go.Proofs.YtciepjdacmjhlaaGreatDoor
