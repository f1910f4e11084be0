/-
  DERIVED. GIVEN WITH THE SEED: THE CARDS: each row of YtolegljmaacabaaDoorRows.lean that lists a variable, with what it lists TIED to the program's text (the seventh form; the later family's looks); each row that meets fmt, with fmt's text TOLD by the authors' own Lean function (tested against real Go, not proved from fmt's source: count such statements apart). THE CARD IS WHAT COUNTS. Prove the row's statement (the work); the ties are given (YtolegljmaacabaaDoorTie.lean); close each card by the builder's one call (the guide's Derived/Test/ToyasCard.lean, 'card_holds'). Laid BY PROGRAM, IN A SANDBOX (cutbox-door.mjs). By AI agents, Wed Nov 11 2026. No macro, syntax, notation, axiom, sorry.
-/
import Derived.Test.YtolegljmaacabaaDoorRows
import GoSem.ClaimSeven
namespace Go.Proofs.YtolegljmaacabaaDoor
namespace Rows

/-- THE TIED CARD OF 'ossuarylaw25.RequestTells'. -/
def requestTellsCard : Claim7 := { stood := { row := requestTellsRow, standIns := [], harness := (true, "ea4042f4efdf3bd22f84afa0fd5ffb3a213746191355cf6ba2542711a17f877f"), looks := false }, kinds := [], alts := [], laidByText := true, laidKinds := [.data, .data, .data, .data, .pinned], laidTests := true, laidLooks := .later }
def RequestTellsCardSaid : Prop := Claim7.holds Tryd.pinned (.plain (OpenSpec.ofChange requestTellsSpec)) requestTellsCard

/-- THE TIED CARD OF 'ossuarylaw25.RequestBlanks'. -/
def requestBlanksCard : Claim7 := { stood := { row := requestBlanksRow, standIns := [], harness := (true, "ea4042f4efdf3bd22f84afa0fd5ffb3a213746191355cf6ba2542711a17f877f"), looks := false }, kinds := [], alts := [], laidByText := true, laidKinds := [.data, .data, .data, .data, .pinned], laidTests := true, laidLooks := .later }
def RequestBlanksCardSaid : Prop := Claim7.holds Tryd.pinned (.plain (OpenSpec.ofChange requestBlanksSpec)) requestBlanksCard

/-- THE TIED CARD OF 'ossuarylaw25.RequestWords'. -/
def requestWordsCard : Claim7 := { stood := { row := requestWordsRow, standIns := [], harness := (true, "ea4042f4efdf3bd22f84afa0fd5ffb3a213746191355cf6ba2542711a17f877f"), looks := false }, kinds := [], alts := [], laidByText := true, laidKinds := [.data, .data, .data, .data, .pinned], laidTests := true, laidLooks := .later }
def RequestWordsCardSaid : Prop := Claim7.holds Tryd.pinned (.plain (OpenSpec.ofChange requestWordsSpec)) requestWordsCard

/-- THE TIED CARD OF 'ossuarylaw25.RequestFills'. -/
def requestFillsCard : Claim7 := { stood := { row := requestFillsRow, standIns := [], harness := (true, "ea4042f4efdf3bd22f84afa0fd5ffb3a213746191355cf6ba2542711a17f877f"), looks := false }, kinds := [], alts := [], laidByText := true, laidKinds := [.data, .data, .data, .data, .pinned], laidTests := true, laidLooks := .later }
def RequestFillsCardSaid : Prop := Claim7.holds Tryd.pinned (.plain (OpenSpec.ofChange requestFillsSpec)) requestFillsCard

/-- THE SECOND FORM's CARD OF 'ossuarylaw25.RequestTells'. -/
def requestTellsUptoCard : Claim7 := { stood := { row := requestTellsUptoRow, standIns := [], harness := (true, "ea4042f4efdf3bd22f84afa0fd5ffb3a213746191355cf6ba2542711a17f877f"), looks := false }, kinds := [], alts := [], laidByText := true, laidKinds := [.data, .data, .data, .data, .pinned], laidTests := true, laidLooks := .later }
def RequestTellsUptoCardSaid : Prop := Claim7.holds Tryd.pinned (.plain (OpenSpec.upto requestTellsSpec)) requestTellsUptoCard

/-- THE SECOND FORM's CARD OF 'ossuarylaw25.RequestBlanks'. -/
def requestBlanksUptoCard : Claim7 := { stood := { row := requestBlanksUptoRow, standIns := [], harness := (true, "ea4042f4efdf3bd22f84afa0fd5ffb3a213746191355cf6ba2542711a17f877f"), looks := false }, kinds := [], alts := [], laidByText := true, laidKinds := [.data, .data, .data, .data, .pinned], laidTests := true, laidLooks := .later }
def RequestBlanksUptoCardSaid : Prop := Claim7.holds Tryd.pinned (.plain (OpenSpec.upto requestBlanksSpec)) requestBlanksUptoCard

/-- THE SECOND FORM's CARD OF 'ossuarylaw25.RequestWords'. -/
def requestWordsUptoCard : Claim7 := { stood := { row := requestWordsUptoRow, standIns := [], harness := (true, "ea4042f4efdf3bd22f84afa0fd5ffb3a213746191355cf6ba2542711a17f877f"), looks := false }, kinds := [], alts := [], laidByText := true, laidKinds := [.data, .data, .data, .data, .pinned], laidTests := true, laidLooks := .later }
def RequestWordsUptoCardSaid : Prop := Claim7.holds Tryd.pinned (.plain (OpenSpec.upto requestWordsSpec)) requestWordsUptoCard

/-- THE SECOND FORM's CARD OF 'ossuarylaw25.RequestFills'. -/
def requestFillsUptoCard : Claim7 := { stood := { row := requestFillsUptoRow, standIns := [], harness := (true, "ea4042f4efdf3bd22f84afa0fd5ffb3a213746191355cf6ba2542711a17f877f"), looks := false }, kinds := [], alts := [], laidByText := true, laidKinds := [.data, .data, .data, .data, .pinned], laidTests := true, laidLooks := .later }
def RequestFillsUptoCardSaid : Prop := Claim7.holds Tryd.pinned (.plain (OpenSpec.upto requestFillsSpec)) requestFillsUptoCard
end Rows
end Go.Proofs.YtolegljmaacabaaDoor
