/-
  NARROWER THAN 'FOR EVERY INPUT', by the rows' own cells (each row's printed sentence says how): CompactDoes: loops · CompactModel: loops · CompactRoom: loops · CompactKept: loops · CompactTwice: loops.
  DERIVED. THE GIVEN ROWS OF THIS SEAT. 5 by the template 'for every input the law returns true; each argument reads behind the call as it read before'; 0 by the template 'total and deterministic' (their statements: YtbigkioechkngaaGreatTotals.lean).
  GIVEN WITH THE SEED: the statements are not yours to turn. If you find one false, say at which input.
  Laid BY PROGRAM, IN A SANDBOX (cutbox-rows.mjs): the forced cells as the released guide's own fill.sh prints them over the translation 6ee95572dd65243c… (all of the seat's roots in one cut). By AI agents, Wed Nov 11 2026. No macro, syntax, notation, axiom, sorry.
-/
import Derived.Test.YtbigkioechkngaaGreatChecked
import GoSem.Claim
import GoSem.ClaimJoined
import GoSem.ClaimMapViews
import Derived.JoinedTies
import Derived.KernelRfl
namespace Go.Proofs.YtbigkioechkngaaGreat
/- THE CELL 'sum', in the pinned program and in every row, IS THE sha256 OF THE DUMP (.gsa) THAT YtbigkioechkngaaGreatProg.lean LOADS. Nothing in Lean hashes anything: it is a label: what it is worth is what the hold of that sum in a sandbox is worth. -/
noncomputable def Tryz.pinned : Pinned := { name := "ytbigkioechkngaagreat", sum := "6ee95572dd65243c8c33fed211f5916b0921c72f8c67e9da86b3786560b4a823", checked := Tryz.checked }
namespace Rows
def none {H : Type} : Left H := { results := [], args := [] }

/-- 'ossuarylaw22.CompactDoes': WHATEVER THE INPUT: true; the input reads as it did. -/
def compactDoesSpec : ChangeSpec := { name := "compactDoes", fn := fun _ => fun
  | [d1, d2] => { results := [.lit (.bool true)], args := [d1, d2] }
  | _ => none }
def compactDoesRow : OpenClaim := { program := "ytbigkioechkngaagreat", sum := "6ee95572dd65243c8c33fed211f5916b0921c72f8c67e9da86b3786560b4a823", func := "ossuary/ossuarylaw22.CompactDoes", spec := "compactDoes", inPlace := ["slices.overlaps[ossuary/api.Use]", "internal/abi.NoEscape", "internal/bytealg.MakeNoZero"], unfollowed := true, recurses := true, loops := true, apart := false }
def CompactDoesSaid : Prop := compactDoesRow.holds Tryz.pinned (OpenSpec.ofChange compactDoesSpec)

/-- ITS FALSE NEIGHBOUR: 'it returns false'. Refute it at one input. -/
def compactDoesWrong : ChangeSpec := { name := "compactDoes", fn := fun _ => fun
  | [d1, d2] => { results := [.lit (.bool false)], args := [d1, d2] }
  | _ => none }
def CompactDoesWrongFalsely : Prop := compactDoesRow.holds Tryz.pinned (OpenSpec.ofChange compactDoesWrong)

/-- 'ossuarylaw22.CompactModel': WHATEVER THE INPUT: true; the input reads as it did. -/
def compactModelSpec : ChangeSpec := { name := "compactModel", fn := fun _ => fun
  | [d1, d2] => { results := [.lit (.bool true)], args := [d1, d2] }
  | _ => none }
def compactModelRow : OpenClaim := { program := "ytbigkioechkngaagreat", sum := "6ee95572dd65243c8c33fed211f5916b0921c72f8c67e9da86b3786560b4a823", func := "ossuary/ossuarylaw22.CompactModel", spec := "compactModel", inPlace := ["slices.overlaps[ossuary/api.Use]", "internal/abi.NoEscape", "internal/bytealg.MakeNoZero"], unfollowed := true, recurses := true, loops := true, apart := false }
def CompactModelSaid : Prop := compactModelRow.holds Tryz.pinned (OpenSpec.ofChange compactModelSpec)

/-- ITS FALSE NEIGHBOUR: 'it returns false'. Refute it at one input. -/
def compactModelWrong : ChangeSpec := { name := "compactModel", fn := fun _ => fun
  | [d1, d2] => { results := [.lit (.bool false)], args := [d1, d2] }
  | _ => none }
def CompactModelWrongFalsely : Prop := compactModelRow.holds Tryz.pinned (OpenSpec.ofChange compactModelWrong)

/-- 'ossuarylaw22.CompactRoom': WHATEVER THE INPUT: true; the input reads as it did. -/
def compactRoomSpec : ChangeSpec := { name := "compactRoom", fn := fun _ => fun
  | [d1, d2] => { results := [.lit (.bool true)], args := [d1, d2] }
  | _ => none }
def compactRoomRow : OpenClaim := { program := "ytbigkioechkngaagreat", sum := "6ee95572dd65243c8c33fed211f5916b0921c72f8c67e9da86b3786560b4a823", func := "ossuary/ossuarylaw22.CompactRoom", spec := "compactRoom", inPlace := ["slices.overlaps[ossuary/api.Use]", "internal/abi.NoEscape", "internal/bytealg.MakeNoZero"], unfollowed := true, recurses := true, loops := true, apart := false }
def CompactRoomSaid : Prop := compactRoomRow.holds Tryz.pinned (OpenSpec.ofChange compactRoomSpec)

/-- ITS FALSE NEIGHBOUR: 'it returns false'. Refute it at one input. -/
def compactRoomWrong : ChangeSpec := { name := "compactRoom", fn := fun _ => fun
  | [d1, d2] => { results := [.lit (.bool false)], args := [d1, d2] }
  | _ => none }
def CompactRoomWrongFalsely : Prop := compactRoomRow.holds Tryz.pinned (OpenSpec.ofChange compactRoomWrong)

/-- 'ossuarylaw22.CompactKept': WHATEVER THE INPUT: true; the input reads as it did. -/
def compactKeptSpec : ChangeSpec := { name := "compactKept", fn := fun _ => fun
  | [d1, d2] => { results := [.lit (.bool true)], args := [d1, d2] }
  | _ => none }
def compactKeptRow : OpenClaim := { program := "ytbigkioechkngaagreat", sum := "6ee95572dd65243c8c33fed211f5916b0921c72f8c67e9da86b3786560b4a823", func := "ossuary/ossuarylaw22.CompactKept", spec := "compactKept", inPlace := ["slices.overlaps[ossuary/api.Use]", "internal/abi.NoEscape", "internal/bytealg.MakeNoZero"], unfollowed := true, recurses := true, loops := true, apart := false }
def CompactKeptSaid : Prop := compactKeptRow.holds Tryz.pinned (OpenSpec.ofChange compactKeptSpec)

/-- ITS FALSE NEIGHBOUR: 'it returns false'. Refute it at one input. -/
def compactKeptWrong : ChangeSpec := { name := "compactKept", fn := fun _ => fun
  | [d1, d2] => { results := [.lit (.bool false)], args := [d1, d2] }
  | _ => none }
def CompactKeptWrongFalsely : Prop := compactKeptRow.holds Tryz.pinned (OpenSpec.ofChange compactKeptWrong)

/-- 'ossuarylaw22.CompactTwice': WHATEVER THE INPUT: true; the input reads as it did. -/
def compactTwiceSpec : ChangeSpec := { name := "compactTwice", fn := fun _ => fun
  | [d1, d2] => { results := [.lit (.bool true)], args := [d1, d2] }
  | _ => none }
def compactTwiceRow : OpenClaim := { program := "ytbigkioechkngaagreat", sum := "6ee95572dd65243c8c33fed211f5916b0921c72f8c67e9da86b3786560b4a823", func := "ossuary/ossuarylaw22.CompactTwice", spec := "compactTwice", inPlace := ["slices.overlaps[ossuary/api.Use]", "internal/abi.NoEscape", "internal/bytealg.MakeNoZero"], unfollowed := true, recurses := true, loops := true, apart := false }
def CompactTwiceSaid : Prop := compactTwiceRow.holds Tryz.pinned (OpenSpec.ofChange compactTwiceSpec)

/-- ITS FALSE NEIGHBOUR: 'it returns false'. Refute it at one input. -/
def compactTwiceWrong : ChangeSpec := { name := "compactTwice", fn := fun _ => fun
  | [d1, d2] => { results := [.lit (.bool false)], args := [d1, d2] }
  | _ => none }
def CompactTwiceWrongFalsely : Prop := compactTwiceRow.holds Tryz.pinned (OpenSpec.ofChange compactTwiceWrong)

/- THE SECOND FORM. 'bulk': how many values and letters a reading holds, each counted each time it is reached (what is shared counts as often as it is met; a slice's spare places count too). A statement '..UptoSaid' is the law's where the arguments, and the package variables that the reading takes, are together of bulk at most 1048576: NARROWER than '..Said'. Prove '..Said' where nothing that the law and all that it calls make is longer than what came in: it says more and counts as full. Else prove '..UptoSaid'. A law counts once. -/
mutual
def uptoBulk {H : Type} : DataW H → Nat
  | .lit (.string bytes) => bytes.length + 1
  | .lit _ => 1
  | .nil => 1
  | .ptr d => uptoBulk d + 1
  | .slice elems spare => uptoBulkAll elems + uptoBulkAll spare + 1
  | .agg parts => uptoBulkAll parts + 1
  | .iface _ d => uptoBulk d + 1
  | .map entries => uptoBulkEntries entries + 1
  | .held _ => 1
def uptoBulkAll {H : Type} : List (DataW H) → Nat
  | [] => 0
  | d :: r => uptoBulk d + uptoBulkAll r
def uptoBulkEntries {H : Type} : List (Lit × DataW H) → Nat
  | [] => 0
  | x :: r => uptoBulkEntry x + uptoBulkEntries r
def uptoBulkEntry {H : Type} : Lit × DataW H → Nat
  | (.string bytes, d) => bytes.length + uptoBulk d + 1
  | (_, d) => uptoBulk d + 1
 end
def uptoSmall : (H : Type) → List (DataW H) → Bool := fun _ ds => decide (uptoBulkAll ds ≤ 1048576)
def OpenSpec.upto (s : _root_.Go.ChangeSpec) : _root_.Go.OpenSpec := { _root_.Go.OpenSpec.ofChange s with cond := some uptoSmall }

/-- 'ossuarylaw22.CompactDoes', WHERE WHAT IT READS IS OF BULK AT MOST 1048576: true; the input reads as it did. -/
def compactDoesUptoRow : OpenClaim := { program := "ytbigkioechkngaagreat", sum := "6ee95572dd65243c8c33fed211f5916b0921c72f8c67e9da86b3786560b4a823", func := "ossuary/ossuarylaw22.CompactDoes", spec := "compactDoes", inPlace := ["slices.overlaps[ossuary/api.Use]", "internal/abi.NoEscape", "internal/bytealg.MakeNoZero"], unfollowed := true, recurses := true, loops := true, apart := false, narrowed := true }
def CompactDoesUptoSaid : Prop := compactDoesUptoRow.holds Tryz.pinned (OpenSpec.upto compactDoesSpec)

/-- 'ossuarylaw22.CompactModel', WHERE WHAT IT READS IS OF BULK AT MOST 1048576: true; the input reads as it did. -/
def compactModelUptoRow : OpenClaim := { program := "ytbigkioechkngaagreat", sum := "6ee95572dd65243c8c33fed211f5916b0921c72f8c67e9da86b3786560b4a823", func := "ossuary/ossuarylaw22.CompactModel", spec := "compactModel", inPlace := ["slices.overlaps[ossuary/api.Use]", "internal/abi.NoEscape", "internal/bytealg.MakeNoZero"], unfollowed := true, recurses := true, loops := true, apart := false, narrowed := true }
def CompactModelUptoSaid : Prop := compactModelUptoRow.holds Tryz.pinned (OpenSpec.upto compactModelSpec)

/-- 'ossuarylaw22.CompactRoom', WHERE WHAT IT READS IS OF BULK AT MOST 1048576: true; the input reads as it did. -/
def compactRoomUptoRow : OpenClaim := { program := "ytbigkioechkngaagreat", sum := "6ee95572dd65243c8c33fed211f5916b0921c72f8c67e9da86b3786560b4a823", func := "ossuary/ossuarylaw22.CompactRoom", spec := "compactRoom", inPlace := ["slices.overlaps[ossuary/api.Use]", "internal/abi.NoEscape", "internal/bytealg.MakeNoZero"], unfollowed := true, recurses := true, loops := true, apart := false, narrowed := true }
def CompactRoomUptoSaid : Prop := compactRoomUptoRow.holds Tryz.pinned (OpenSpec.upto compactRoomSpec)

/-- 'ossuarylaw22.CompactKept', WHERE WHAT IT READS IS OF BULK AT MOST 1048576: true; the input reads as it did. -/
def compactKeptUptoRow : OpenClaim := { program := "ytbigkioechkngaagreat", sum := "6ee95572dd65243c8c33fed211f5916b0921c72f8c67e9da86b3786560b4a823", func := "ossuary/ossuarylaw22.CompactKept", spec := "compactKept", inPlace := ["slices.overlaps[ossuary/api.Use]", "internal/abi.NoEscape", "internal/bytealg.MakeNoZero"], unfollowed := true, recurses := true, loops := true, apart := false, narrowed := true }
def CompactKeptUptoSaid : Prop := compactKeptUptoRow.holds Tryz.pinned (OpenSpec.upto compactKeptSpec)

/-- 'ossuarylaw22.CompactTwice', WHERE WHAT IT READS IS OF BULK AT MOST 1048576: true; the input reads as it did. -/
def compactTwiceUptoRow : OpenClaim := { program := "ytbigkioechkngaagreat", sum := "6ee95572dd65243c8c33fed211f5916b0921c72f8c67e9da86b3786560b4a823", func := "ossuary/ossuarylaw22.CompactTwice", spec := "compactTwice", inPlace := ["slices.overlaps[ossuary/api.Use]", "internal/abi.NoEscape", "internal/bytealg.MakeNoZero"], unfollowed := true, recurses := true, loops := true, apart := false, narrowed := true }
def CompactTwiceUptoSaid : Prop := compactTwiceUptoRow.holds Tryz.pinned (OpenSpec.upto compactTwiceSpec)

end Rows
end Go.Proofs.YtbigkioechkngaaGreat
