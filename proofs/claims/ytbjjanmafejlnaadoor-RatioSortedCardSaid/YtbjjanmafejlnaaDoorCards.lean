/-
  DERIVED. GIVEN WITH THE SEED: THE CARDS: each row of YtbjjanmafejlnaaDoorRows.lean that lists a variable, with what it lists TIED to the program's text (the seventh form; the later family's looks); each row that meets fmt, with fmt's text TOLD by the authors' own Lean function (tested against real Go, not proved from fmt's source: count such statements apart). THE CARD IS WHAT COUNTS. Prove the row's statement (the work); the ties are given (YtbjjanmafejlnaaDoorTie.lean); close each card by the builder's one call (the guide's Derived/Test/ToyasCard.lean, 'card_holds'). Laid BY PROGRAM, IN A SANDBOX (cutbox-door.mjs). By AI agents, Wed Nov 11 2026. No macro, syntax, notation, axiom, sorry.
-/
import Derived.Test.YtbjjanmafejlnaaDoorRows
import GoSem.ClaimSeven
namespace Go.Proofs.YtbjjanmafejlnaaDoor
namespace Rows

/-- THE TIED CARD OF 'ossuarylaw01.RatioTells'. -/
def ratioTellsCard : Claim7 := { stood := { row := ratioTellsRow, standIns := [], harness := (true, "f86a9f7ee4379856d4f9e800003c726f86d1659efb599b1c58cdab77629e3f10"), looks := false }, kinds := [], alts := [], laidByText := true, laidKinds := [.data, .data, .data], laidTests := true, laidLooks := .later }
def RatioTellsCardSaid : Prop := Claim7.holds Tryd.pinned (.plain (OpenSpec.ofChange ratioTellsSpec)) ratioTellsCard

/-- THE TIED CARD OF 'ossuarylaw01.RatioOrder'. -/
def ratioOrderCard : Claim7 := { stood := { row := ratioOrderRow, standIns := [], harness := (true, "f86a9f7ee4379856d4f9e800003c726f86d1659efb599b1c58cdab77629e3f10"), looks := false }, kinds := [], alts := [], laidByText := true, laidKinds := [.data, .data, .data], laidTests := true, laidLooks := .later }
def RatioOrderCardSaid : Prop := Claim7.holds Tryd.pinned (.plain (OpenSpec.ofChange ratioOrderSpec)) ratioOrderCard

/-- THE TIED CARD OF 'ossuarylaw01.RatioSigns'. -/
def ratioSignsCard : Claim7 := { stood := { row := ratioSignsRow, standIns := [], harness := (true, "f86a9f7ee4379856d4f9e800003c726f86d1659efb599b1c58cdab77629e3f10"), looks := false }, kinds := [], alts := [], laidByText := true, laidKinds := [.data, .data, .data], laidTests := true, laidLooks := .later }
def RatioSignsCardSaid : Prop := Claim7.holds Tryd.pinned (.plain (OpenSpec.ofChange ratioSignsSpec)) ratioSignsCard

/-- THE TIED CARD OF 'ossuarylaw01.RatioWhole'. -/
def ratioWholeCard : Claim7 := { stood := { row := ratioWholeRow, standIns := [], harness := (true, "f86a9f7ee4379856d4f9e800003c726f86d1659efb599b1c58cdab77629e3f10"), looks := false }, kinds := [], alts := [], laidByText := true, laidKinds := [.data, .data, .data], laidTests := true, laidLooks := .later }
def RatioWholeCardSaid : Prop := Claim7.holds Tryd.pinned (.plain (OpenSpec.ofChange ratioWholeSpec)) ratioWholeCard

/-- THE TIED CARD OF 'ossuarylaw01.RatioLists'. -/
def ratioListsCard : Claim7 := { stood := { row := ratioListsRow, standIns := [], harness := (true, "f86a9f7ee4379856d4f9e800003c726f86d1659efb599b1c58cdab77629e3f10"), looks := false }, kinds := [], alts := [], laidByText := true, laidKinds := [.data, .data, .data], laidTests := true, laidLooks := .later }
def RatioListsCardSaid : Prop := Claim7.holds Tryd.pinned (.plain (OpenSpec.ofChange ratioListsSpec)) ratioListsCard

/-- THE TIED CARD OF 'ossuarylaw01.RatioSorted'. -/
def ratioSortedCard : Claim7 := { stood := { row := ratioSortedRow, standIns := [], harness := (true, "f86a9f7ee4379856d4f9e800003c726f86d1659efb599b1c58cdab77629e3f10"), looks := false }, kinds := [], alts := [], laidByText := true, laidKinds := [.data, .data, .data], laidTests := true, laidLooks := .later }
def RatioSortedCardSaid : Prop := Claim7.holds Tryd.pinned (.plain (OpenSpec.ofChange ratioSortedSpec)) ratioSortedCard

/-- THE SECOND FORM's CARD OF 'ossuarylaw01.RatioTells'. -/
def ratioTellsUptoCard : Claim7 := { stood := { row := ratioTellsUptoRow, standIns := [], harness := (true, "f86a9f7ee4379856d4f9e800003c726f86d1659efb599b1c58cdab77629e3f10"), looks := false }, kinds := [], alts := [], laidByText := true, laidKinds := [.data, .data, .data], laidTests := true, laidLooks := .later }
def RatioTellsUptoCardSaid : Prop := Claim7.holds Tryd.pinned (.plain (OpenSpec.upto ratioTellsSpec)) ratioTellsUptoCard

/-- THE SECOND FORM's CARD OF 'ossuarylaw01.RatioOrder'. -/
def ratioOrderUptoCard : Claim7 := { stood := { row := ratioOrderUptoRow, standIns := [], harness := (true, "f86a9f7ee4379856d4f9e800003c726f86d1659efb599b1c58cdab77629e3f10"), looks := false }, kinds := [], alts := [], laidByText := true, laidKinds := [.data, .data, .data], laidTests := true, laidLooks := .later }
def RatioOrderUptoCardSaid : Prop := Claim7.holds Tryd.pinned (.plain (OpenSpec.upto ratioOrderSpec)) ratioOrderUptoCard

/-- THE SECOND FORM's CARD OF 'ossuarylaw01.RatioSigns'. -/
def ratioSignsUptoCard : Claim7 := { stood := { row := ratioSignsUptoRow, standIns := [], harness := (true, "f86a9f7ee4379856d4f9e800003c726f86d1659efb599b1c58cdab77629e3f10"), looks := false }, kinds := [], alts := [], laidByText := true, laidKinds := [.data, .data, .data], laidTests := true, laidLooks := .later }
def RatioSignsUptoCardSaid : Prop := Claim7.holds Tryd.pinned (.plain (OpenSpec.upto ratioSignsSpec)) ratioSignsUptoCard

/-- THE SECOND FORM's CARD OF 'ossuarylaw01.RatioWhole'. -/
def ratioWholeUptoCard : Claim7 := { stood := { row := ratioWholeUptoRow, standIns := [], harness := (true, "f86a9f7ee4379856d4f9e800003c726f86d1659efb599b1c58cdab77629e3f10"), looks := false }, kinds := [], alts := [], laidByText := true, laidKinds := [.data, .data, .data], laidTests := true, laidLooks := .later }
def RatioWholeUptoCardSaid : Prop := Claim7.holds Tryd.pinned (.plain (OpenSpec.upto ratioWholeSpec)) ratioWholeUptoCard

/-- THE SECOND FORM's CARD OF 'ossuarylaw01.RatioLists'. -/
def ratioListsUptoCard : Claim7 := { stood := { row := ratioListsUptoRow, standIns := [], harness := (true, "f86a9f7ee4379856d4f9e800003c726f86d1659efb599b1c58cdab77629e3f10"), looks := false }, kinds := [], alts := [], laidByText := true, laidKinds := [.data, .data, .data], laidTests := true, laidLooks := .later }
def RatioListsUptoCardSaid : Prop := Claim7.holds Tryd.pinned (.plain (OpenSpec.upto ratioListsSpec)) ratioListsUptoCard

/-- THE SECOND FORM's CARD OF 'ossuarylaw01.RatioSorted'. -/
def ratioSortedUptoCard : Claim7 := { stood := { row := ratioSortedUptoRow, standIns := [], harness := (true, "f86a9f7ee4379856d4f9e800003c726f86d1659efb599b1c58cdab77629e3f10"), looks := false }, kinds := [], alts := [], laidByText := true, laidKinds := [.data, .data, .data], laidTests := true, laidLooks := .later }
def RatioSortedUptoCardSaid : Prop := Claim7.holds Tryd.pinned (.plain (OpenSpec.upto ratioSortedSpec)) ratioSortedUptoCard
end Rows
end Go.Proofs.YtbjjanmafejlnaaDoor
