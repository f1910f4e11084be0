/- Layer 1's seat: what the rows' list of tables gives, and a world for the witness. -/
import Derived.Test.YtbjjanmafejlnaaDoorCards
import Derived.Test.YtbjjanmafejlnaaDoorTie
import Derived.Test.YtbjjanmafejlnaaDoorRatioH
import Derived.Test.YtbjjanmafejlnaaDoorLawPost
import Derived.OpenShut
import Derived.Deep.DeepHandedRow
import Derived.Lib.LaidTab
import Derived.Stop.LaidErr
namespace Go.Proofs.YtbjjanmafejlnaaDoor
open Go.Stop Go.ChangeShapes Go.WideShapes Go.ChangeAt Go.RowKit

theorem own : ownKnob Tryd.prog.godebug = none := by kernel_rfl
theorem gPow : Tryd.prog.globalNamed "internal/strconv.uint64pow10" = some 1 := by kernel_rfl
theorem gPowType : (Tryd.prog.globals[1]?).map (·.type) = some 86 := by kernel_rfl
theorem cellsPow : Tryd.prog.cellsOf 86 = 20 := by kernel_rfl
theorem cellsU64 : Tryd.prog.cellsOf 45 = 1 := by kernel_rfl

theorem pow10_met {W : World} (h : laidMetH Tryd.prog Rows.ratioOrderRow.laid W) : Pow10 W := by
  have h' : laidMet Tryd.prog Rows.ratioOrderRow.laid W := h
  have h2 := laidMet.tail (laidMet.tail h')
  exact Lib.tabIs_of_head (rest := []) gPow gPowType Tryd.underlying86 Tryd.underlying45 cellsU64 cellsPow h2

def tabCells : DataW Unit → Array Value
  | .agg l => (l.map fun d => match d with | .lit (.int k z) => Value.int k z | _ => Value.nilIface).toArray
  | _ => #[]
def refill (c : Array Value) : Obj → Obj
  | .cells _ t frozen => .cells c t frozen
  | o => o
/-- A WORLD FOR THE WITNESS: the settled one, each listed table holding what its initialiser lays. -/
noncomputable def laidWorld (os : Os) : World :=
  { World.holding Tryd.prog os ⟨#[], #[], []⟩ with heap := (((World.holding Tryd.prog os ⟨#[], #[], []⟩).heap.modify 3 (refill (tabCells Rows.laid_math_bits_deBruijn32tab))).modify 4 (refill (tabCells Rows.laid_math_bits_deBruijn64tab))).modify 1 (refill (tabCells Rows.laid_internal_strconv_uint64pow10)) }
theorem laid_met (os : Os) (args : Array Value) : laidMet Tryd.prog Rows.ratioOrderRow.laid ((laidWorld os).forCall (fun _ _ => 0) ⟨#[], args, []⟩).memory :=
  laidMet_of_run' 8 (by kernel_rfl) (by kernel_rfl)

theorem float_lt {b : Nat} (h : (Lit.float .f64 b).wf = true) : b < 2 ^ 64 := by simpa [Lit.wf] using h
theorem int_bounds {n : Int} (h : (Lit.int .i64 n).wf = true) : -9223372036854775808 ≤ n ∧ n ≤ 9223372036854775807 := by
  have h2 : IntKind.min .i64 ≤ n ∧ n ≤ IntKind.max .i64 := by simpa [Lit.wf] using h
  have e1 : IntKind.min .i64 = -9223372036854775808 := by decide
  have e2 : IntKind.max .i64 = 9223372036854775807 := by decide
  rwa [e1, e2] at h2
theorem laidOut : laidOutB Tryd.prog = true := by kernel_rfl
end Go.Proofs.YtbjjanmafejlnaaDoor
