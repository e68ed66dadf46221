/- Two cursors compared. -/
import Derived.Test.YtpdgkflnbkibjaaChecked
import Derived.Test.YtpdgkflnbkibjaaBunA
namespace Go.Proofs.Ytpdgkflnbkibjaa
set_option linter.unusedSimpArgs false
open Go.RowKit
set_option linter.unusedVariables false
set_option maxRecDepth 100000 in
theorem cur_eqIn (d : Nat) (s o p s' o' p' : Nat) (w : World) : (Op.equalIn (d + 1 + 1) 24 (.agg #[.int .i64 s, .int .i64 o, .int .u32 p]) (.agg #[.int .i64 s', .int .i64 o', .int .u32 p'])).run Try.prog w = .ok (decide (s = s') && (decide (o = o') && decide (p = p'))) w := by
  simp [Op.equalIn, run_underlying Try.underlying24, part, isAgg, run_underlying Try.underlying2, run_underlying Try.underlying22]
  by_cases h1 : s = s' <;> by_cases h2 : o = o' <;> by_cases h3 : p = p' <;> simp [h1, h2, h3, Int.ofNat_inj]
theorem cur_eql (s o p s' o' p' : Nat) (w : World) : (binOp .eql 24 (.agg #[.int .i64 s, .int .i64 o, .int .u32 p]) (.agg #[.int .i64 s', .int .i64 o', .int .u32 p'])).run Try.prog w = .ok (.bool (decide (s = s') && (decide (o = o') && decide (p = p')))) w := by
  have h : (Op.equal 24 (.agg #[.int .i64 s, .int .i64 o, .int .u32 p]) (.agg #[.int .i64 s', .int .i64 o', .int .u32 p'])).run Try.prog w = .ok (decide (s = s') && (decide (o = o') && decide (p = p'))) w := cur_eqIn 9998 s o p s' o' p' w
  simp only [binOp]
  simp [h]
end Go.Proofs.Ytpdgkflnbkibjaa
