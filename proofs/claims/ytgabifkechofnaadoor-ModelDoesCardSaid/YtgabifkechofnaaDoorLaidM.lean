/- Layer 19's seat: what the rows' list of tables gives, and a world for the witness. -/
import Derived.Test.YtgabifkechofnaaDoorCards
import Derived.Test.YtgabifkechofnaaDoorTie
import Derived.Test.YtgabifkechofnaaDoorItoa
import Derived.Test.YtgabifkechofnaaDoorLawPost
import Derived.Test.YtgabifkechofnaaDoorOpenM
import Derived.OpenShut
import Derived.Deep.DeepHandedRow
import Derived.Lib.LaidTab
import Derived.Stop.LaidErr
namespace Go.Proofs.YtgabifkechofnaaDoor
open Go.Stop Go.ChangeShapes Go.WideShapes Go.ChangeAt Go.RowKit

theorem own : ownKnob Tryd.prog.godebug = none := by kernel_rfl
theorem gPow : Tryd.prog.globalNamed "internal/strconv.uint64pow10" = some 1 := by kernel_rfl
theorem gPowType : (Tryd.prog.globals[1]?).map (·.type) = some 112 := by kernel_rfl
theorem cellsPow : Tryd.prog.cellsOf 112 = 20 := by kernel_rfl
theorem cellsU64 : Tryd.prog.cellsOf 93 = 1 := by kernel_rfl
theorem pow10_met {W : World} (h : laidMetH Tryd.prog Rows.modelErrorsRow.laid W) : Pow10 W := by
  have h' : laidMet Tryd.prog Rows.modelErrorsRow.laid W := h
  have h2 := laidMet.tail (laidMet.tail h')
  exact Lib.tabIs_of_head gPow gPowType Tryd.underlying112 Tryd.underlying93 cellsU64 cellsPow h2
theorem laidOut : laidOutB Tryd.prog = true := by kernel_rfl
theorem int_bounds {n : Int} (h : (Lit.int .i64 n).wf = true) : -9223372036854775808 ≤ n ∧ n ≤ 9223372036854775807 := by
  have h2 : IntKind.min .i64 ≤ n ∧ n ≤ IntKind.max .i64 := by simpa [Lit.wf] using h
  have e1 : IntKind.min .i64 = -9223372036854775808 := by decide
  have e2 : IntKind.max .i64 = 9223372036854775807 := by decide
  rwa [e1, e2] at h2

def flatCells : DataW Unit → List Value
  | .lit (.int k z) => [Value.int k z]
  | .agg l => (l.map flat2).flatten
  | _ => []
where flat2 : DataW Unit → List Value
  | .lit (.int k z) => [Value.int k z]
  | .agg l => l.map fun d => match d with | .lit (.int k z) => Value.int k z | _ => Value.nilIface
  | _ => []
def refill (c : Array Value) : Obj → Obj
  | .cells _ t frozen => .cells c t frozen
  | o => o
/-- A WORLD FOR THE WITNESS: the settled one, each listed table holding what its initialiser lays. -/
noncomputable def laidWorld (os : Os) : World :=
  { World.holding Tryd.prog os ⟨#[], #[], []⟩ with heap := (((World.holding Tryd.prog os ⟨#[], #[], []⟩).heap.modify 2 (refill (flatCells Rows.laid_math_bits_deBruijn32tab).toArray)).modify 3 (refill (flatCells Rows.laid_math_bits_deBruijn64tab).toArray)).modify 1 (refill (flatCells Rows.laid_internal_strconv_uint64pow10).toArray) }
theorem laid_met (os : Os) (args : Array Value) : laidMet Tryd.prog Rows.modelErrorsRow.laid ((laidWorld os).forCall (fun _ _ => 0) ⟨#[], args, []⟩).memory :=
  laidMet_of_run' 8 (by kernel_rfl) (by kernel_rfl)
end Go.Proofs.YtgabifkechofnaaDoor
