/-
  Wear and cards, compared by the program's own ==.
-/
import Derived.Test.YtciepjdacmjhlaaDoorK0
import Derived.Test.YtciepjdacmjhlaaDoorC1
set_option linter.unusedVariables false
set_option linter.unusedSimpArgs false
set_option maxRecDepth 100000
namespace Go.Proofs.YtciepjdacmjhlaaDoor
open Go.RowKit
theorem eqA_Card (d : Nat) (a a' : ByteArray) (c f c' f' : Int) (w : World) :
    (Op.equalIn (d + 3) 44 (.agg #[.string a, .int .u64 c, .int .u64 f]) (.agg #[.string a', .int .u64 c', .int .u64 f'])).run Tryd.prog w = .ok ((a.toList == a'.toList) && (c == c' && f == f')) w := by
  have e := eqA_Mask d
  rw [Op.equalIn]
  simp only [Sem.run_bind, run_underlying Tryd.underlying44, Result.andThen_ok, Std.Legacy.Range.forIn_eq_forIn_range', Std.Legacy.Range.size]
  go_simp
  by_cases h1 : a.toList = a'.toList <;> by_cases h3 : c = c' <;> by_cases h4 : f = f' <;> simp [h1, h3, h4]
end Go.Proofs.YtciepjdacmjhlaaDoor
