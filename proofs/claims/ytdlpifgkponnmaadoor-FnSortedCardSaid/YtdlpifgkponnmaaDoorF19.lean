/-
  Contracts of the functions that ask whether a list of fields is a valid scheme.
-/
import Derived.Test.YtdlpifgkponnmaaDoorF18
import Derived.Test.YtdlpifgkponnmaaDoorF12
set_option linter.unusedVariables false
set_option linter.unusedSimpArgs false
set_option maxRecDepth 100000
namespace Go.Proofs.YtdlpifgkponnmaaDoor
open Go.RowKit
theorem isField_in (f : Fld) (hf : FldIn f) (W : World) : Calls Tryd.prog 37 #[.agg #[.string f.nm, .int .i8 f.kd, .int .i16 f.st, .int .i16 f.sz]] W fun e w' => e = .returned (.bool (fldB f)) ∧ Ext W w' := by
  obtain ⟨⟨⟨a0, a1⟩, ⟨a2, a3⟩, a4, a5⟩, hx⟩ := hf
  exact impl_isField f.nm f.kd f.st f.sz a0 a1 a2 a3 a4 a5 hx W
theorem l01Field_in (f : Fld) (hf : FldIn f) (b o : Nat) (W : World) (hF : FldAt W b o f) : Calls Tryd.prog 32 #[.pointer (some ⟨b, o, none⟩)] W fun e w' => e = .returned (.bool (fldB f)) ∧ Ext W w' := by
  obtain ⟨⟨⟨a0, a1⟩, ⟨a2, a3⟩, a4, a5⟩, hx⟩ := hf
  exact spec_l01Field f.nm f.kd f.st f.sz b o a0 a1 a2 a3 a4 a5 hx W hF (World.block_lt_of_cell? W _ hF.1)
