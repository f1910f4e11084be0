/-
  NARROWER THAN 'FOR EVERY INPUT', by the rows' own cells (each row's printed sentence says how): ImprintTells: loops · ImprintBack: loops · ImprintTables: loops · ImprintShape: loops · ImprintLonger: loops.
  DERIVED. THE GIVEN ROWS OF THIS SEAT. 5 by the template 'for every input the law returns true; each argument reads behind the call as it read before'; 0 by the template 'total and deterministic' (their statements: YtpcmihgfcaelfaaTotals.lean).
  GIVEN WITH THE SEED: the statements are not yours to turn. If you find one false, say at which input.
  Laid BY PROGRAM, IN A SANDBOX (cutbox-rows.mjs): the forced cells as the released guide's own fill.sh prints them over the translation ede6965008590a59… (all of the seat's roots in one cut). By AI agents, Wed Nov 11 2026. No macro, syntax, notation, axiom, sorry.
-/
import Derived.Test.YtpcmihgfcaelfaaChecked
import GoSem.Claim
import GoSem.ClaimJoined
import GoSem.ClaimMapViews
import Derived.JoinedTies
import Derived.KernelRfl
namespace Go.Proofs.Ytpcmihgfcaelfaa
/- THE CELL 'sum', in the pinned program and in every row, IS THE sha256 OF THE DUMP (.gsa) THAT YtpcmihgfcaelfaaProg.lean LOADS. Nothing in Lean hashes anything: it is a label: what it is worth is what the hold of that sum in a sandbox is worth. -/
noncomputable def Try.pinned : Pinned := { name := "ytpcmihgfcaelfaa", sum := "ede6965008590a59787000a458f5527fac60b861866175452ff42580b2135503", checked := Try.checked }
namespace Rows
def none {H : Type} : Left H := { results := [], args := [] }

/-- 'ossuarylaw20.ImprintTells': WHATEVER THE INPUT: true; the input reads as it did. -/
def imprintTellsSpec : ChangeSpec := { name := "imprintTells", fn := fun _ => fun
  | [d1, d2, d3] => { results := [.lit (.bool true)], args := [d1, d2, d3] }
  | _ => none }
def imprintTellsRow : OpenClaim := { program := "ytpcmihgfcaelfaa", sum := "ede6965008590a59787000a458f5527fac60b861866175452ff42580b2135503", func := "ossuary/ossuarylaw20.ImprintTells", spec := "imprintTells", inPlace := ["internal/abi.NoEscape"], unfollowed := true, recurses := true, loops := true, apart := false }
def ImprintTellsSaid : Prop := imprintTellsRow.holds Try.pinned (OpenSpec.ofChange imprintTellsSpec)

/-- ITS FALSE NEIGHBOUR: 'it returns false'. Refute it at one input. -/
def imprintTellsWrong : ChangeSpec := { name := "imprintTells", fn := fun _ => fun
  | [d1, d2, d3] => { results := [.lit (.bool false)], args := [d1, d2, d3] }
  | _ => none }
def ImprintTellsWrongFalsely : Prop := imprintTellsRow.holds Try.pinned (OpenSpec.ofChange imprintTellsWrong)

/-- 'ossuarylaw20.ImprintBack': WHATEVER THE INPUT: true; the input reads as it did. -/
def imprintBackSpec : ChangeSpec := { name := "imprintBack", fn := fun _ => fun
  | [d1, d2, d3] => { results := [.lit (.bool true)], args := [d1, d2, d3] }
  | _ => none }
def imprintBackRow : OpenClaim := { program := "ytpcmihgfcaelfaa", sum := "ede6965008590a59787000a458f5527fac60b861866175452ff42580b2135503", func := "ossuary/ossuarylaw20.ImprintBack", spec := "imprintBack", inPlace := ["internal/abi.NoEscape"], unfollowed := true, recurses := true, loops := true, apart := false }
def ImprintBackSaid : Prop := imprintBackRow.holds Try.pinned (OpenSpec.ofChange imprintBackSpec)

/-- ITS FALSE NEIGHBOUR: 'it returns false'. Refute it at one input. -/
def imprintBackWrong : ChangeSpec := { name := "imprintBack", fn := fun _ => fun
  | [d1, d2, d3] => { results := [.lit (.bool false)], args := [d1, d2, d3] }
  | _ => none }
def ImprintBackWrongFalsely : Prop := imprintBackRow.holds Try.pinned (OpenSpec.ofChange imprintBackWrong)

/-- 'ossuarylaw20.ImprintTables': WHATEVER THE INPUT: true; the input reads as it did. -/
def imprintTablesSpec : ChangeSpec := { name := "imprintTables", fn := fun _ => fun
  | [d1, d2] => { results := [.lit (.bool true)], args := [d1, d2] }
  | _ => none }
def imprintTablesRow : OpenClaim := { program := "ytpcmihgfcaelfaa", sum := "ede6965008590a59787000a458f5527fac60b861866175452ff42580b2135503", func := "ossuary/ossuarylaw20.ImprintTables", spec := "imprintTables", inPlace := ["internal/abi.NoEscape"], unfollowed := true, recurses := true, loops := true, apart := false }
def ImprintTablesSaid : Prop := imprintTablesRow.holds Try.pinned (OpenSpec.ofChange imprintTablesSpec)

/-- ITS FALSE NEIGHBOUR: 'it returns false'. Refute it at one input. -/
def imprintTablesWrong : ChangeSpec := { name := "imprintTables", fn := fun _ => fun
  | [d1, d2] => { results := [.lit (.bool false)], args := [d1, d2] }
  | _ => none }
def ImprintTablesWrongFalsely : Prop := imprintTablesRow.holds Try.pinned (OpenSpec.ofChange imprintTablesWrong)

/-- 'ossuarylaw20.ImprintShape': WHATEVER THE INPUT: true; the input reads as it did. -/
def imprintShapeSpec : ChangeSpec := { name := "imprintShape", fn := fun _ => fun
  | [d1, d2] => { results := [.lit (.bool true)], args := [d1, d2] }
  | _ => none }
def imprintShapeRow : OpenClaim := { program := "ytpcmihgfcaelfaa", sum := "ede6965008590a59787000a458f5527fac60b861866175452ff42580b2135503", func := "ossuary/ossuarylaw20.ImprintShape", spec := "imprintShape", inPlace := ["internal/abi.NoEscape"], unfollowed := true, recurses := true, loops := true, apart := false }
def ImprintShapeSaid : Prop := imprintShapeRow.holds Try.pinned (OpenSpec.ofChange imprintShapeSpec)

/-- ITS FALSE NEIGHBOUR: 'it returns false'. Refute it at one input. -/
def imprintShapeWrong : ChangeSpec := { name := "imprintShape", fn := fun _ => fun
  | [d1, d2] => { results := [.lit (.bool false)], args := [d1, d2] }
  | _ => none }
def ImprintShapeWrongFalsely : Prop := imprintShapeRow.holds Try.pinned (OpenSpec.ofChange imprintShapeWrong)

/-- 'ossuarylaw20.ImprintLonger': WHATEVER THE INPUT: true; the input reads as it did. -/
def imprintLongerSpec : ChangeSpec := { name := "imprintLonger", fn := fun _ => fun
  | [d1, d2, d3] => { results := [.lit (.bool true)], args := [d1, d2, d3] }
  | _ => none }
def imprintLongerRow : OpenClaim := { program := "ytpcmihgfcaelfaa", sum := "ede6965008590a59787000a458f5527fac60b861866175452ff42580b2135503", func := "ossuary/ossuarylaw20.ImprintLonger", spec := "imprintLonger", inPlace := ["internal/abi.NoEscape"], unfollowed := true, recurses := true, loops := true, apart := false }
def ImprintLongerSaid : Prop := imprintLongerRow.holds Try.pinned (OpenSpec.ofChange imprintLongerSpec)

/-- ITS FALSE NEIGHBOUR: 'it returns false'. Refute it at one input. -/
def imprintLongerWrong : ChangeSpec := { name := "imprintLonger", fn := fun _ => fun
  | [d1, d2, d3] => { results := [.lit (.bool false)], args := [d1, d2, d3] }
  | _ => none }
def ImprintLongerWrongFalsely : Prop := imprintLongerRow.holds Try.pinned (OpenSpec.ofChange imprintLongerWrong)

/- THE SECOND FORM. 'bulk': how many values and letters a reading holds, each counted each time it is reached (what is shared counts as often as it is met; a slice's spare places count too). A statement '..UptoSaid' is the law's where the arguments, and the package variables that the reading takes, are together of bulk at most 1048576: NARROWER than '..Said'. Prove '..Said' where nothing that the law and all that it calls make is longer than what came in: it says more and counts as full. Else prove '..UptoSaid'. A law counts once. -/
mutual
def uptoBulk {H : Type} : DataW H → Nat
  | .lit (.string bytes) => bytes.length + 1
  | .lit _ => 1
  | .nil => 1
  | .ptr d => uptoBulk d + 1
  | .slice elems spare => uptoBulkAll elems + uptoBulkAll spare + 1
  | .agg parts => uptoBulkAll parts + 1
  | .iface _ d => uptoBulk d + 1
  | .map entries => uptoBulkEntries entries + 1
  | .held _ => 1
def uptoBulkAll {H : Type} : List (DataW H) → Nat
  | [] => 0
  | d :: r => uptoBulk d + uptoBulkAll r
def uptoBulkEntries {H : Type} : List (Lit × DataW H) → Nat
  | [] => 0
  | x :: r => uptoBulkEntry x + uptoBulkEntries r
def uptoBulkEntry {H : Type} : Lit × DataW H → Nat
  | (.string bytes, d) => bytes.length + uptoBulk d + 1
  | (_, d) => uptoBulk d + 1
 end
def uptoSmall : (H : Type) → List (DataW H) → Bool := fun _ ds => decide (uptoBulkAll ds ≤ 1048576)
def OpenSpec.upto (s : _root_.Go.ChangeSpec) : _root_.Go.OpenSpec := { _root_.Go.OpenSpec.ofChange s with cond := some uptoSmall }

/-- 'ossuarylaw20.ImprintTells', WHERE WHAT IT READS IS OF BULK AT MOST 1048576: true; the input reads as it did. -/
def imprintTellsUptoRow : OpenClaim := { program := "ytpcmihgfcaelfaa", sum := "ede6965008590a59787000a458f5527fac60b861866175452ff42580b2135503", func := "ossuary/ossuarylaw20.ImprintTells", spec := "imprintTells", inPlace := ["internal/abi.NoEscape"], unfollowed := true, recurses := true, loops := true, apart := false, narrowed := true }
def ImprintTellsUptoSaid : Prop := imprintTellsUptoRow.holds Try.pinned (OpenSpec.upto imprintTellsSpec)

/-- 'ossuarylaw20.ImprintBack', WHERE WHAT IT READS IS OF BULK AT MOST 1048576: true; the input reads as it did. -/
def imprintBackUptoRow : OpenClaim := { program := "ytpcmihgfcaelfaa", sum := "ede6965008590a59787000a458f5527fac60b861866175452ff42580b2135503", func := "ossuary/ossuarylaw20.ImprintBack", spec := "imprintBack", inPlace := ["internal/abi.NoEscape"], unfollowed := true, recurses := true, loops := true, apart := false, narrowed := true }
def ImprintBackUptoSaid : Prop := imprintBackUptoRow.holds Try.pinned (OpenSpec.upto imprintBackSpec)

/-- 'ossuarylaw20.ImprintTables', WHERE WHAT IT READS IS OF BULK AT MOST 1048576: true; the input reads as it did. -/
def imprintTablesUptoRow : OpenClaim := { program := "ytpcmihgfcaelfaa", sum := "ede6965008590a59787000a458f5527fac60b861866175452ff42580b2135503", func := "ossuary/ossuarylaw20.ImprintTables", spec := "imprintTables", inPlace := ["internal/abi.NoEscape"], unfollowed := true, recurses := true, loops := true, apart := false, narrowed := true }
def ImprintTablesUptoSaid : Prop := imprintTablesUptoRow.holds Try.pinned (OpenSpec.upto imprintTablesSpec)

/-- 'ossuarylaw20.ImprintShape', WHERE WHAT IT READS IS OF BULK AT MOST 1048576: true; the input reads as it did. -/
def imprintShapeUptoRow : OpenClaim := { program := "ytpcmihgfcaelfaa", sum := "ede6965008590a59787000a458f5527fac60b861866175452ff42580b2135503", func := "ossuary/ossuarylaw20.ImprintShape", spec := "imprintShape", inPlace := ["internal/abi.NoEscape"], unfollowed := true, recurses := true, loops := true, apart := false, narrowed := true }
def ImprintShapeUptoSaid : Prop := imprintShapeUptoRow.holds Try.pinned (OpenSpec.upto imprintShapeSpec)

/-- 'ossuarylaw20.ImprintLonger', WHERE WHAT IT READS IS OF BULK AT MOST 1048576: true; the input reads as it did. -/
def imprintLongerUptoRow : OpenClaim := { program := "ytpcmihgfcaelfaa", sum := "ede6965008590a59787000a458f5527fac60b861866175452ff42580b2135503", func := "ossuary/ossuarylaw20.ImprintLonger", spec := "imprintLonger", inPlace := ["internal/abi.NoEscape"], unfollowed := true, recurses := true, loops := true, apart := false, narrowed := true }
def ImprintLongerUptoSaid : Prop := imprintLongerUptoRow.holds Try.pinned (OpenSpec.upto imprintLongerSpec)

end Rows
end Go.Proofs.Ytpcmihgfcaelfaa
