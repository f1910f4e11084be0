/-
  DERIVED. GIVEN WITH THE SEED: THE CARDS: each row of YtgabifkechofnaaDoorRows.lean that lists a variable, with what it lists TIED to the program's text (the seventh form; the later family's looks); each row that meets fmt, with fmt's text TOLD by the authors' own Lean function (tested against real Go, not proved from fmt's source: count such statements apart). THE CARD IS WHAT COUNTS. Prove the row's statement (the work); the ties are given (YtgabifkechofnaaDoorTie.lean); close each card by the builder's one call (the guide's Derived/Test/ToyasCard.lean, 'card_holds'). Laid BY PROGRAM, IN A SANDBOX (cutbox-door.mjs). By AI agents, Wed Nov 11 2026. No macro, syntax, notation, axiom, sorry.
-/
import Derived.Test.YtgabifkechofnaaDoorRows
import GoSem.ClaimSeven
namespace Go.Proofs.YtgabifkechofnaaDoor
namespace Rows

/-- THE TIED CARD OF 'ossuarylaw19.ModelDoes'. -/
def modelDoesCard : Claim7 := { stood := { row := modelDoesRow, standIns := [], harness := (true, "b47779a32e77375ada156aaa30dca8e8684311915318aa8cd04155a936be53c0"), looks := false }, kinds := [], alts := [], laidByText := true, laidKinds := [.data, .data, .data], laidTests := true, laidLooks := .later }
def ModelDoesCardSaid : Prop := Claim7.holds Tryd.pinned (.plain (OpenSpec.ofChange modelDoesSpec)) modelDoesCard

/-- THE TIED CARD OF 'ossuarylaw19.ModelErrors'. -/
def modelErrorsCard : Claim7 := { stood := { row := modelErrorsRow, standIns := [], harness := (true, "b47779a32e77375ada156aaa30dca8e8684311915318aa8cd04155a936be53c0"), looks := false }, kinds := [], alts := [], laidByText := true, laidKinds := [.data, .data, .data], laidTests := true, laidLooks := .later }
def ModelErrorsCardSaid : Prop := Claim7.holds Tryd.pinned (.plain (OpenSpec.ofChange modelErrorsSpec)) modelErrorsCard

/-- THE TIED CARD OF 'ossuarylaw19.ModelReads'. -/
def modelReadsCard : Claim7 := { stood := { row := modelReadsRow, standIns := [], harness := (true, "b47779a32e77375ada156aaa30dca8e8684311915318aa8cd04155a936be53c0"), looks := false }, kinds := [], alts := [], laidByText := true, laidKinds := [.data, .data, .data], laidTests := true, laidLooks := .later }
def ModelReadsCardSaid : Prop := Claim7.holds Tryd.pinned (.plain (OpenSpec.ofChange modelReadsSpec)) modelReadsCard

/-- THE TIED CARD OF 'ossuarylaw19.ModelSnaps'. -/
def modelSnapsCard : Claim7 := { stood := { row := modelSnapsRow, standIns := [], harness := (true, "b47779a32e77375ada156aaa30dca8e8684311915318aa8cd04155a936be53c0"), looks := false }, kinds := [], alts := [], laidByText := true, laidKinds := [.data, .data, .data], laidTests := true, laidLooks := .later }
def ModelSnapsCardSaid : Prop := Claim7.holds Tryd.pinned (.plain (OpenSpec.ofChange modelSnapsSpec)) modelSnapsCard

/-- THE TIED CARD OF 'ossuarylaw19.ModelSizes'. -/
def modelSizesCard : Claim7 := { stood := { row := modelSizesRow, standIns := [], harness := (true, "b47779a32e77375ada156aaa30dca8e8684311915318aa8cd04155a936be53c0"), looks := false }, kinds := [], alts := [], laidByText := true, laidKinds := [.data, .data, .data], laidTests := true, laidLooks := .later }
def ModelSizesCardSaid : Prop := Claim7.holds Tryd.pinned (.plain (OpenSpec.ofChange modelSizesSpec)) modelSizesCard

/-- THE SECOND FORM's CARD OF 'ossuarylaw19.ModelDoes'. -/
def modelDoesUptoCard : Claim7 := { stood := { row := modelDoesUptoRow, standIns := [], harness := (true, "b47779a32e77375ada156aaa30dca8e8684311915318aa8cd04155a936be53c0"), looks := false }, kinds := [], alts := [], laidByText := true, laidKinds := [.data, .data, .data], laidTests := true, laidLooks := .later }
def ModelDoesUptoCardSaid : Prop := Claim7.holds Tryd.pinned (.plain (OpenSpec.upto modelDoesSpec)) modelDoesUptoCard

/-- THE SECOND FORM's CARD OF 'ossuarylaw19.ModelErrors'. -/
def modelErrorsUptoCard : Claim7 := { stood := { row := modelErrorsUptoRow, standIns := [], harness := (true, "b47779a32e77375ada156aaa30dca8e8684311915318aa8cd04155a936be53c0"), looks := false }, kinds := [], alts := [], laidByText := true, laidKinds := [.data, .data, .data], laidTests := true, laidLooks := .later }
def ModelErrorsUptoCardSaid : Prop := Claim7.holds Tryd.pinned (.plain (OpenSpec.upto modelErrorsSpec)) modelErrorsUptoCard

/-- THE SECOND FORM's CARD OF 'ossuarylaw19.ModelReads'. -/
def modelReadsUptoCard : Claim7 := { stood := { row := modelReadsUptoRow, standIns := [], harness := (true, "b47779a32e77375ada156aaa30dca8e8684311915318aa8cd04155a936be53c0"), looks := false }, kinds := [], alts := [], laidByText := true, laidKinds := [.data, .data, .data], laidTests := true, laidLooks := .later }
def ModelReadsUptoCardSaid : Prop := Claim7.holds Tryd.pinned (.plain (OpenSpec.upto modelReadsSpec)) modelReadsUptoCard

/-- THE SECOND FORM's CARD OF 'ossuarylaw19.ModelSnaps'. -/
def modelSnapsUptoCard : Claim7 := { stood := { row := modelSnapsUptoRow, standIns := [], harness := (true, "b47779a32e77375ada156aaa30dca8e8684311915318aa8cd04155a936be53c0"), looks := false }, kinds := [], alts := [], laidByText := true, laidKinds := [.data, .data, .data], laidTests := true, laidLooks := .later }
def ModelSnapsUptoCardSaid : Prop := Claim7.holds Tryd.pinned (.plain (OpenSpec.upto modelSnapsSpec)) modelSnapsUptoCard

/-- THE SECOND FORM's CARD OF 'ossuarylaw19.ModelSizes'. -/
def modelSizesUptoCard : Claim7 := { stood := { row := modelSizesUptoRow, standIns := [], harness := (true, "b47779a32e77375ada156aaa30dca8e8684311915318aa8cd04155a936be53c0"), looks := false }, kinds := [], alts := [], laidByText := true, laidKinds := [.data, .data, .data], laidTests := true, laidLooks := .later }
def ModelSizesUptoCardSaid : Prop := Claim7.holds Tryd.pinned (.plain (OpenSpec.upto modelSizesSpec)) modelSizesUptoCard
end Rows
end Go.Proofs.YtgabifkechofnaaDoor
