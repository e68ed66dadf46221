/- Two cursors compared, whatever numbers they hold. -/
import Derived.Test.YtfbnegdaglbdiaaDoorChecked
import Derived.Test.YtfbnegdaglbdiaaDoorBunA
namespace Go.Proofs.YtfbnegdaglbdiaaDoor
set_option linter.unusedSimpArgs false
open Go.RowKit
set_option linter.unusedVariables false
set_option maxRecDepth 100000 in
theorem curI_eqIn (d : Nat) (s o p s' o' p' : Int) (w : World) : (Op.equalIn (d + 1 + 1) 58 (.agg #[.int .i64 s, .int .i64 o, .int .u32 p]) (.agg #[.int .i64 s', .int .i64 o', .int .u32 p'])).run Tryd.prog w = .ok (decide (s = s' ∧ o = o' ∧ p = p')) w := by
  simp [Op.equalIn, run_underlying Tryd.underlying58, part, isAgg, run_underlying Tryd.underlying2, run_underlying Tryd.underlying54]
  by_cases h1 : s = s' <;> by_cases h2 : o = o' <;> by_cases h3 : p = p' <;> simp [h1, h2, h3]
theorem curI_equal (s o p s' o' p' : Int) (w : World) : (Op.equal 58 (.agg #[.int .i64 s, .int .i64 o, .int .u32 p]) (.agg #[.int .i64 s', .int .i64 o', .int .u32 p'])).run Tryd.prog w = .ok (decide (s = s' ∧ o = o' ∧ p = p')) w := curI_eqIn 9998 s o p s' o' p' w
theorem curI_eql (s o p s' o' p' : Int) (w : World) : (binOp .eql 58 (.agg #[.int .i64 s, .int .i64 o, .int .u32 p]) (.agg #[.int .i64 s', .int .i64 o', .int .u32 p'])).run Tryd.prog w = .ok (.bool (decide (s = s' ∧ o = o' ∧ p = p'))) w := by
  have h := curI_equal s o p s' o' p' w
  simp only [binOp]
  simp [h]
theorem curI_neq (s o p s' o' p' : Int) (w : World) : (binOp .neq 58 (.agg #[.int .i64 s, .int .i64 o, .int .u32 p]) (.agg #[.int .i64 s', .int .i64 o', .int .u32 p'])).run Tryd.prog w = .ok (.bool (!decide (s = s' ∧ o = o' ∧ p = p'))) w := by
  have h := curI_equal s o p s' o' p' w
  simp only [binOp]
  simp [h]
end Go.Proofs.YtfbnegdaglbdiaaDoor
