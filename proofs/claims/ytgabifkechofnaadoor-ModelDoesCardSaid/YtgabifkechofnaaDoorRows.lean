/-
  NARROWER THAN 'FOR EVERY INPUT', by the rows' own cells (each row's printed sentence says how): ModelDoes: laid · ModelErrors: laid · ModelReads: laid · ModelSnaps: laid · ModelSizes: laid.
  DERIVED. THE GIVEN ROWS OF THIS SEAT. 5 by the template 'for every input the law returns true; each argument reads behind the call as it read before'; 0 by the template 'total and deterministic' (their statements: YtgabifkechofnaaDoorTotals.lean).
  GIVEN WITH THE SEED: the statements are not yours to turn. If you find one false, say at which input.
  Laid BY PROGRAM, IN A SANDBOX (cutbox-rows.mjs): the forced cells as the released guide's own fill.sh prints them over the translation 9905143a96a8d5b3… (all of the seat's roots in one cut). By AI agents, Wed Nov 11 2026. No macro, syntax, notation, axiom, sorry.
-/
import Derived.Test.YtgabifkechofnaaDoorChecked
import GoSem.Claim
import GoSem.ClaimJoined
import GoSem.ClaimMapViews
import Derived.JoinedTies
import Derived.KernelRfl
namespace Go.Proofs.YtgabifkechofnaaDoor
/- THE CELL 'sum', in the pinned program and in every row, IS THE sha256 OF THE DUMP (.gsa) THAT YtgabifkechofnaaDoorProg.lean LOADS. Nothing in Lean hashes anything: it is a label: what it is worth is what the hold of that sum in a sandbox is worth. -/
noncomputable def Tryd.pinned : Pinned := { name := "ytgabifkechofnaadoor", sum := "9905143a96a8d5b3be4aa95c8780e465e7c516ee387364ce5158f2e89a620334", checked := Tryd.checked }
namespace Rows
def none {H : Type} : Left H := { results := [], args := [] }

/- WHAT THE LISTED PACKAGE-LEVEL VARIABLES READ AS WHEN THE CALL BEGINS. Each datum BY PROGRAM (the guide's laid-datum.mjs) off the statement by which the dump's own 'gosem.cut.vars' lays the variable. In a bare row this is a premise. The card (YtgabifkechofnaaDoorCards.lean) ties it to the program's text. -/
def laid_math_bits_deBruijn32tab {H : Type} : DataW H := .agg [.lit (.int .u8 0), .lit (.int .u8 1), .lit (.int .u8 28), .lit (.int .u8 2), .lit (.int .u8 29), .lit (.int .u8 14), .lit (.int .u8 24), .lit (.int .u8 3), .lit (.int .u8 30), .lit (.int .u8 22), .lit (.int .u8 20), .lit (.int .u8 15), .lit (.int .u8 25), .lit (.int .u8 17), .lit (.int .u8 4), .lit (.int .u8 8), .lit (.int .u8 31), .lit (.int .u8 27), .lit (.int .u8 13), .lit (.int .u8 23), .lit (.int .u8 21), .lit (.int .u8 19), .lit (.int .u8 16), .lit (.int .u8 7), .lit (.int .u8 26), .lit (.int .u8 12), .lit (.int .u8 18), .lit (.int .u8 6), .lit (.int .u8 11), .lit (.int .u8 5), .lit (.int .u8 10), .lit (.int .u8 9)]
def laid_math_bits_deBruijn64tab {H : Type} : DataW H := .agg [.lit (.int .u8 0), .lit (.int .u8 1), .lit (.int .u8 56), .lit (.int .u8 2), .lit (.int .u8 57), .lit (.int .u8 49), .lit (.int .u8 28), .lit (.int .u8 3), .lit (.int .u8 61), .lit (.int .u8 58), .lit (.int .u8 42), .lit (.int .u8 50), .lit (.int .u8 38), .lit (.int .u8 29), .lit (.int .u8 17), .lit (.int .u8 4), .lit (.int .u8 62), .lit (.int .u8 47), .lit (.int .u8 59), .lit (.int .u8 36), .lit (.int .u8 45), .lit (.int .u8 43), .lit (.int .u8 51), .lit (.int .u8 22), .lit (.int .u8 53), .lit (.int .u8 39), .lit (.int .u8 33), .lit (.int .u8 30), .lit (.int .u8 24), .lit (.int .u8 18), .lit (.int .u8 12), .lit (.int .u8 5), .lit (.int .u8 63), .lit (.int .u8 55), .lit (.int .u8 48), .lit (.int .u8 27), .lit (.int .u8 60), .lit (.int .u8 41), .lit (.int .u8 37), .lit (.int .u8 16), .lit (.int .u8 46), .lit (.int .u8 35), .lit (.int .u8 44), .lit (.int .u8 21), .lit (.int .u8 52), .lit (.int .u8 32), .lit (.int .u8 23), .lit (.int .u8 11), .lit (.int .u8 54), .lit (.int .u8 26), .lit (.int .u8 40), .lit (.int .u8 15), .lit (.int .u8 34), .lit (.int .u8 20), .lit (.int .u8 31), .lit (.int .u8 10), .lit (.int .u8 25), .lit (.int .u8 14), .lit (.int .u8 19), .lit (.int .u8 9), .lit (.int .u8 13), .lit (.int .u8 8), .lit (.int .u8 7), .lit (.int .u8 6)]
def laid_internal_strconv_uint64pow10 {H : Type} : DataW H := .agg [.lit (.int .u64 1), .lit (.int .u64 10), .lit (.int .u64 100), .lit (.int .u64 1000), .lit (.int .u64 10000), .lit (.int .u64 100000), .lit (.int .u64 1000000), .lit (.int .u64 10000000), .lit (.int .u64 100000000), .lit (.int .u64 1000000000), .lit (.int .u64 10000000000), .lit (.int .u64 100000000000), .lit (.int .u64 1000000000000), .lit (.int .u64 10000000000000), .lit (.int .u64 100000000000000), .lit (.int .u64 1000000000000000), .lit (.int .u64 10000000000000000), .lit (.int .u64 100000000000000000), .lit (.int .u64 1000000000000000000), .lit (.int .u64 10000000000000000000)]

/-- 'ossuarylaw19.ModelDoes': WHATEVER THE INPUT: true; the input reads as it did. -/
def modelDoesSpec : ChangeSpec := { name := "modelDoes", fn := fun _ => fun
  | [d1, d2] => { results := [.lit (.bool true)], args := [d1, d2] }
  | _ => none }
def modelDoesRow : OpenClaim := { program := "ytgabifkechofnaadoor", sum := "9905143a96a8d5b3be4aa95c8780e465e7c516ee387364ce5158f2e89a620334", func := "ossuary/ossuarylaw19.ModelDoes", spec := "modelDoes", inPlace := ["slices.overlaps[ossuary/api.MVol]", "internal/abi.NoEscape", "internal/bytealg.MakeNoZero", "slices.overlaps[ossuary/api.MBlock]"], unfollowed := true, recurses := true, named := ["internal/strconv.uint64pow10", "math/bits.deBruijn32tab", "math/bits.deBruijn64tab"], apart := false, laid := [("math/bits.deBruijn32tab", laid_math_bits_deBruijn32tab), ("math/bits.deBruijn64tab", laid_math_bits_deBruijn64tab), ("internal/strconv.uint64pow10", laid_internal_strconv_uint64pow10)] }
def ModelDoesSaid : Prop := modelDoesRow.holds Tryd.pinned (OpenSpec.ofChange modelDoesSpec)

/-- ITS FALSE NEIGHBOUR: 'it returns false'. Refute it at one input. -/
def modelDoesWrong : ChangeSpec := { name := "modelDoes", fn := fun _ => fun
  | [d1, d2] => { results := [.lit (.bool false)], args := [d1, d2] }
  | _ => none }
def ModelDoesWrongFalsely : Prop := modelDoesRow.holds Tryd.pinned (OpenSpec.ofChange modelDoesWrong)

/-- 'ossuarylaw19.ModelErrors': WHATEVER THE INPUT: true; the input reads as it did. -/
def modelErrorsSpec : ChangeSpec := { name := "modelErrors", fn := fun _ => fun
  | [d1, d2] => { results := [.lit (.bool true)], args := [d1, d2] }
  | _ => none }
def modelErrorsRow : OpenClaim := { program := "ytgabifkechofnaadoor", sum := "9905143a96a8d5b3be4aa95c8780e465e7c516ee387364ce5158f2e89a620334", func := "ossuary/ossuarylaw19.ModelErrors", spec := "modelErrors", inPlace := ["slices.overlaps[ossuary/api.MVol]", "internal/abi.NoEscape", "internal/bytealg.MakeNoZero", "slices.overlaps[ossuary/api.MBlock]"], unfollowed := true, recurses := true, named := ["internal/strconv.uint64pow10", "math/bits.deBruijn32tab", "math/bits.deBruijn64tab"], apart := false, laid := [("math/bits.deBruijn32tab", laid_math_bits_deBruijn32tab), ("math/bits.deBruijn64tab", laid_math_bits_deBruijn64tab), ("internal/strconv.uint64pow10", laid_internal_strconv_uint64pow10)] }
def ModelErrorsSaid : Prop := modelErrorsRow.holds Tryd.pinned (OpenSpec.ofChange modelErrorsSpec)

/-- ITS FALSE NEIGHBOUR: 'it returns false'. Refute it at one input. -/
def modelErrorsWrong : ChangeSpec := { name := "modelErrors", fn := fun _ => fun
  | [d1, d2] => { results := [.lit (.bool false)], args := [d1, d2] }
  | _ => none }
def ModelErrorsWrongFalsely : Prop := modelErrorsRow.holds Tryd.pinned (OpenSpec.ofChange modelErrorsWrong)

/-- 'ossuarylaw19.ModelReads': WHATEVER THE INPUT: true; the input reads as it did. -/
def modelReadsSpec : ChangeSpec := { name := "modelReads", fn := fun _ => fun
  | [d1, d2, d3] => { results := [.lit (.bool true)], args := [d1, d2, d3] }
  | _ => none }
def modelReadsRow : OpenClaim := { program := "ytgabifkechofnaadoor", sum := "9905143a96a8d5b3be4aa95c8780e465e7c516ee387364ce5158f2e89a620334", func := "ossuary/ossuarylaw19.ModelReads", spec := "modelReads", inPlace := ["slices.overlaps[ossuary/api.MVol]", "internal/abi.NoEscape", "internal/bytealg.MakeNoZero", "slices.overlaps[ossuary/api.MBlock]"], unfollowed := true, recurses := true, named := ["internal/strconv.uint64pow10", "math/bits.deBruijn32tab", "math/bits.deBruijn64tab"], apart := false, laid := [("math/bits.deBruijn32tab", laid_math_bits_deBruijn32tab), ("math/bits.deBruijn64tab", laid_math_bits_deBruijn64tab), ("internal/strconv.uint64pow10", laid_internal_strconv_uint64pow10)] }
def ModelReadsSaid : Prop := modelReadsRow.holds Tryd.pinned (OpenSpec.ofChange modelReadsSpec)

/-- ITS FALSE NEIGHBOUR: 'it returns false'. Refute it at one input. -/
def modelReadsWrong : ChangeSpec := { name := "modelReads", fn := fun _ => fun
  | [d1, d2, d3] => { results := [.lit (.bool false)], args := [d1, d2, d3] }
  | _ => none }
def ModelReadsWrongFalsely : Prop := modelReadsRow.holds Tryd.pinned (OpenSpec.ofChange modelReadsWrong)

/-- 'ossuarylaw19.ModelSnaps': WHATEVER THE INPUT: true; the input reads as it did. -/
def modelSnapsSpec : ChangeSpec := { name := "modelSnaps", fn := fun _ => fun
  | [d1, d2, d3] => { results := [.lit (.bool true)], args := [d1, d2, d3] }
  | _ => none }
def modelSnapsRow : OpenClaim := { program := "ytgabifkechofnaadoor", sum := "9905143a96a8d5b3be4aa95c8780e465e7c516ee387364ce5158f2e89a620334", func := "ossuary/ossuarylaw19.ModelSnaps", spec := "modelSnaps", inPlace := ["slices.overlaps[ossuary/api.MVol]", "internal/abi.NoEscape", "internal/bytealg.MakeNoZero", "slices.overlaps[ossuary/api.MBlock]"], unfollowed := true, recurses := true, named := ["internal/strconv.uint64pow10", "math/bits.deBruijn32tab", "math/bits.deBruijn64tab"], apart := false, laid := [("math/bits.deBruijn32tab", laid_math_bits_deBruijn32tab), ("math/bits.deBruijn64tab", laid_math_bits_deBruijn64tab), ("internal/strconv.uint64pow10", laid_internal_strconv_uint64pow10)] }
def ModelSnapsSaid : Prop := modelSnapsRow.holds Tryd.pinned (OpenSpec.ofChange modelSnapsSpec)

/-- ITS FALSE NEIGHBOUR: 'it returns false'. Refute it at one input. -/
def modelSnapsWrong : ChangeSpec := { name := "modelSnaps", fn := fun _ => fun
  | [d1, d2, d3] => { results := [.lit (.bool false)], args := [d1, d2, d3] }
  | _ => none }
def ModelSnapsWrongFalsely : Prop := modelSnapsRow.holds Tryd.pinned (OpenSpec.ofChange modelSnapsWrong)

/-- 'ossuarylaw19.ModelSizes': WHATEVER THE INPUT: true; the input reads as it did. -/
def modelSizesSpec : ChangeSpec := { name := "modelSizes", fn := fun _ => fun
  | [d1, d2, d3] => { results := [.lit (.bool true)], args := [d1, d2, d3] }
  | _ => none }
def modelSizesRow : OpenClaim := { program := "ytgabifkechofnaadoor", sum := "9905143a96a8d5b3be4aa95c8780e465e7c516ee387364ce5158f2e89a620334", func := "ossuary/ossuarylaw19.ModelSizes", spec := "modelSizes", inPlace := ["slices.overlaps[ossuary/api.MVol]", "internal/abi.NoEscape", "internal/bytealg.MakeNoZero", "slices.overlaps[ossuary/api.MBlock]"], unfollowed := true, recurses := true, named := ["internal/strconv.uint64pow10", "math/bits.deBruijn32tab", "math/bits.deBruijn64tab"], apart := false, laid := [("math/bits.deBruijn32tab", laid_math_bits_deBruijn32tab), ("math/bits.deBruijn64tab", laid_math_bits_deBruijn64tab), ("internal/strconv.uint64pow10", laid_internal_strconv_uint64pow10)] }
def ModelSizesSaid : Prop := modelSizesRow.holds Tryd.pinned (OpenSpec.ofChange modelSizesSpec)

/-- ITS FALSE NEIGHBOUR: 'it returns false'. Refute it at one input. -/
def modelSizesWrong : ChangeSpec := { name := "modelSizes", fn := fun _ => fun
  | [d1, d2, d3] => { results := [.lit (.bool false)], args := [d1, d2, d3] }
  | _ => none }
def ModelSizesWrongFalsely : Prop := modelSizesRow.holds Tryd.pinned (OpenSpec.ofChange modelSizesWrong)

/- THE SECOND FORM. 'bulk': how many values and letters a reading holds, each counted each time it is reached (what is shared counts as often as it is met; a slice's spare places count too). A statement '..UptoSaid' is the law's where the arguments, and the package variables that the reading takes, are together of bulk at most 1048576: NARROWER than '..Said'. Prove '..Said' where nothing that the law and all that it calls make is longer than what came in: it says more and counts as full. Else prove '..UptoSaid'. A law counts once. -/
mutual
def uptoBulk {H : Type} : DataW H → Nat
  | .lit (.string bytes) => bytes.length + 1
  | .lit _ => 1
  | .nil => 1
  | .ptr d => uptoBulk d + 1
  | .slice elems spare => uptoBulkAll elems + uptoBulkAll spare + 1
  | .agg parts => uptoBulkAll parts + 1
  | .iface _ d => uptoBulk d + 1
  | .map entries => uptoBulkEntries entries + 1
  | .held _ => 1
def uptoBulkAll {H : Type} : List (DataW H) → Nat
  | [] => 0
  | d :: r => uptoBulk d + uptoBulkAll r
def uptoBulkEntries {H : Type} : List (Lit × DataW H) → Nat
  | [] => 0
  | x :: r => uptoBulkEntry x + uptoBulkEntries r
def uptoBulkEntry {H : Type} : Lit × DataW H → Nat
  | (.string bytes, d) => bytes.length + uptoBulk d + 1
  | (_, d) => uptoBulk d + 1
 end
def uptoSmall : (H : Type) → List (DataW H) → Bool := fun _ ds => decide (uptoBulkAll ds ≤ 1048576)
def OpenSpec.upto (s : _root_.Go.ChangeSpec) : _root_.Go.OpenSpec := { _root_.Go.OpenSpec.ofChange s with cond := some uptoSmall }

/-- 'ossuarylaw19.ModelDoes', WHERE WHAT IT READS IS OF BULK AT MOST 1048576: true; the input reads as it did. -/
def modelDoesUptoRow : OpenClaim := { program := "ytgabifkechofnaadoor", sum := "9905143a96a8d5b3be4aa95c8780e465e7c516ee387364ce5158f2e89a620334", func := "ossuary/ossuarylaw19.ModelDoes", spec := "modelDoes", inPlace := ["slices.overlaps[ossuary/api.MVol]", "internal/abi.NoEscape", "internal/bytealg.MakeNoZero", "slices.overlaps[ossuary/api.MBlock]"], unfollowed := true, recurses := true, named := ["internal/strconv.uint64pow10", "math/bits.deBruijn32tab", "math/bits.deBruijn64tab"], apart := false, laid := [("math/bits.deBruijn32tab", laid_math_bits_deBruijn32tab), ("math/bits.deBruijn64tab", laid_math_bits_deBruijn64tab), ("internal/strconv.uint64pow10", laid_internal_strconv_uint64pow10)], narrowed := true }
def ModelDoesUptoSaid : Prop := modelDoesUptoRow.holds Tryd.pinned (OpenSpec.upto modelDoesSpec)

/-- 'ossuarylaw19.ModelErrors', WHERE WHAT IT READS IS OF BULK AT MOST 1048576: true; the input reads as it did. -/
def modelErrorsUptoRow : OpenClaim := { program := "ytgabifkechofnaadoor", sum := "9905143a96a8d5b3be4aa95c8780e465e7c516ee387364ce5158f2e89a620334", func := "ossuary/ossuarylaw19.ModelErrors", spec := "modelErrors", inPlace := ["slices.overlaps[ossuary/api.MVol]", "internal/abi.NoEscape", "internal/bytealg.MakeNoZero", "slices.overlaps[ossuary/api.MBlock]"], unfollowed := true, recurses := true, named := ["internal/strconv.uint64pow10", "math/bits.deBruijn32tab", "math/bits.deBruijn64tab"], apart := false, laid := [("math/bits.deBruijn32tab", laid_math_bits_deBruijn32tab), ("math/bits.deBruijn64tab", laid_math_bits_deBruijn64tab), ("internal/strconv.uint64pow10", laid_internal_strconv_uint64pow10)], narrowed := true }
def ModelErrorsUptoSaid : Prop := modelErrorsUptoRow.holds Tryd.pinned (OpenSpec.upto modelErrorsSpec)

/-- 'ossuarylaw19.ModelReads', WHERE WHAT IT READS IS OF BULK AT MOST 1048576: true; the input reads as it did. -/
def modelReadsUptoRow : OpenClaim := { program := "ytgabifkechofnaadoor", sum := "9905143a96a8d5b3be4aa95c8780e465e7c516ee387364ce5158f2e89a620334", func := "ossuary/ossuarylaw19.ModelReads", spec := "modelReads", inPlace := ["slices.overlaps[ossuary/api.MVol]", "internal/abi.NoEscape", "internal/bytealg.MakeNoZero", "slices.overlaps[ossuary/api.MBlock]"], unfollowed := true, recurses := true, named := ["internal/strconv.uint64pow10", "math/bits.deBruijn32tab", "math/bits.deBruijn64tab"], apart := false, laid := [("math/bits.deBruijn32tab", laid_math_bits_deBruijn32tab), ("math/bits.deBruijn64tab", laid_math_bits_deBruijn64tab), ("internal/strconv.uint64pow10", laid_internal_strconv_uint64pow10)], narrowed := true }
def ModelReadsUptoSaid : Prop := modelReadsUptoRow.holds Tryd.pinned (OpenSpec.upto modelReadsSpec)

/-- 'ossuarylaw19.ModelSnaps', WHERE WHAT IT READS IS OF BULK AT MOST 1048576: true; the input reads as it did. -/
def modelSnapsUptoRow : OpenClaim := { program := "ytgabifkechofnaadoor", sum := "9905143a96a8d5b3be4aa95c8780e465e7c516ee387364ce5158f2e89a620334", func := "ossuary/ossuarylaw19.ModelSnaps", spec := "modelSnaps", inPlace := ["slices.overlaps[ossuary/api.MVol]", "internal/abi.NoEscape", "internal/bytealg.MakeNoZero", "slices.overlaps[ossuary/api.MBlock]"], unfollowed := true, recurses := true, named := ["internal/strconv.uint64pow10", "math/bits.deBruijn32tab", "math/bits.deBruijn64tab"], apart := false, laid := [("math/bits.deBruijn32tab", laid_math_bits_deBruijn32tab), ("math/bits.deBruijn64tab", laid_math_bits_deBruijn64tab), ("internal/strconv.uint64pow10", laid_internal_strconv_uint64pow10)], narrowed := true }
def ModelSnapsUptoSaid : Prop := modelSnapsUptoRow.holds Tryd.pinned (OpenSpec.upto modelSnapsSpec)

/-- 'ossuarylaw19.ModelSizes', WHERE WHAT IT READS IS OF BULK AT MOST 1048576: true; the input reads as it did. -/
def modelSizesUptoRow : OpenClaim := { program := "ytgabifkechofnaadoor", sum := "9905143a96a8d5b3be4aa95c8780e465e7c516ee387364ce5158f2e89a620334", func := "ossuary/ossuarylaw19.ModelSizes", spec := "modelSizes", inPlace := ["slices.overlaps[ossuary/api.MVol]", "internal/abi.NoEscape", "internal/bytealg.MakeNoZero", "slices.overlaps[ossuary/api.MBlock]"], unfollowed := true, recurses := true, named := ["internal/strconv.uint64pow10", "math/bits.deBruijn32tab", "math/bits.deBruijn64tab"], apart := false, laid := [("math/bits.deBruijn32tab", laid_math_bits_deBruijn32tab), ("math/bits.deBruijn64tab", laid_math_bits_deBruijn64tab), ("internal/strconv.uint64pow10", laid_internal_strconv_uint64pow10)], narrowed := true }
def ModelSizesUptoSaid : Prop := modelSizesUptoRow.holds Tryd.pinned (OpenSpec.upto modelSizesSpec)

end Rows
end Go.Proofs.YtgabifkechofnaaDoor
