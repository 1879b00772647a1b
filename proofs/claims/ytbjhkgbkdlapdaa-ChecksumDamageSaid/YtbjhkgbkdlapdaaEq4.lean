/- Two arrays of four bytes compared. -/
import Derived.Test.YtbjhkgbkdlapdaaRows
import Derived.Test.YtbjhkgbkdlapdaaBase
import Derived.Laws.StructEq
namespace Go.Proofs.Ytbjhkgbkdlapdaa
open Go.RowKit
set_option linter.unusedVariables false

theorem size5 (w : World) : (Go.sizeOf 5).run Try.prog w = .ok 1 w := by kernel_rfl

theorem run_eq4 (d : Nat) (w : World) (x0 x1 x2 x3 y0 y1 y2 y3 : Int) :
    (Op.equalIn (d + 1 + 1) 53 (.agg #[.int .u8 x0, .int .u8 x1, .int .u8 x2, .int .u8 x3]) (.agg #[.int .u8 y0, .int .u8 y1, .int .u8 y2, .int .u8 y3])).run Try.prog w = .ok ((x0 == y0) && ((x1 == y1) && ((x2 == y2) && (x3 == y3)))) w := by
  have hint : ∀ (d : Nat) (a b : Int) (w : World), (Op.equalIn (d + 1) 5 (.int .u8 a) (.int .u8 b)).run Try.prog w = .ok (a == b) w := fun d a b w => run_equalIn_int w d 5 .u8 .u8 a b Try.underlying5
  have hp : ∀ (i : Nat) (c0 c1 c2 c3 : Int) (w : World), i < 4 → (part 5 #[.int .u8 c0, .int .u8 c1, .int .u8 c2, .int .u8 c3] i).run Try.prog w = .ok (#[Value.int .u8 c0, .int .u8 c1, .int .u8 c2, .int .u8 c3].getD i undef) w := by
    intro i c0 c1 c2 c3 w hi
    match i, hi with
    | 0, _ => rfl
    | 1, _ => rfl
    | 2, _ => rfl
    | 3, _ => rfl
  rw [Op.equalIn]
  simp only [Sem.run_bind, run_underlying Try.underlying53, Result.andThen_ok, size5]
  have hp0 := fun c0 c1 c2 c3 w => hp 0 c0 c1 c2 c3 w (by omega)
  have hp1 := fun c0 c1 c2 c3 w => hp 1 c0 c1 c2 c3 w (by omega)
  have hp2 := fun c0 c1 c2 c3 w => hp 2 c0 c1 c2 c3 w (by omega)
  have hp3 := fun c0 c1 c2 c3 w => hp 3 c0 c1 c2 c3 w (by omega)
  cases h0 : (x0 == y0) <;> cases h1 : (x1 == y1) <;> cases h2 : (x2 == y2) <;> cases h3 : (x3 == y3)
  all_goals simp [List.range', hp0, hp1, hp2, hp3, hint, h0, h1, h2, h3, Sem.run_ite, -beq_iff_eq, -beq_eq_false_iff_ne]

end Go.Proofs.Ytbjhkgbkdlapdaa
