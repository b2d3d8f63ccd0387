/-
  DERIVED. GIVEN WITH THE SEED: THE CARDS: each row of YtlopjkfhkfbhlaaDoorRows.lean that lists a variable, with what it lists TIED to the program's text (the seventh form; the later family's looks); each row that meets fmt, with fmt's text TOLD by the authors' own Lean function (tested against real Go, not proved from fmt's source: count such statements apart). THE CARD IS WHAT COUNTS. Prove the row's statement (the work); the ties are given (YtlopjkfhkfbhlaaDoorTie.lean); close each card by the builder's one call (the guide's Derived/Test/ToyasCard.lean, 'card_holds'). Laid BY PROGRAM, IN A SANDBOX (cutbox-door.mjs). By AI agents, Wed Nov 11 2026. No macro, syntax, notation, axiom, sorry.
-/
import Derived.Test.YtlopjkfhkfbhlaaDoorRows
import GoSem.ClaimSeven
namespace Go.Proofs.YtlopjkfhkfbhlaaDoor
namespace Rows

/-- THE TIED CARD OF 'gobolaw3.DecodeAsks'. -/
def decodeAsksCard : Claim7 := { stood := { row := decodeAsksRow, standIns := [], harness := (true, "d81085ed4cf5ad674b75b834b42be83f190c691da5cac72f4effd5a1fbf29096"), looks := true }, kinds := [], alts := [], laidByText := true, laidKinds := [.data, .pinned], laidTests := true, laidLooks := .later }
def DecodeAsksCardSaid : Prop := Claim7.holds Tryd.pinned (.plain (OpenSpec.ofChange decodeAsksSpec)) decodeAsksCard

/-- THE TIED CARD OF 'gobolaw3.DecodeCuts'. -/
def decodeCutsCard : Claim7 := { stood := { row := decodeCutsRow, standIns := [], harness := (true, "d81085ed4cf5ad674b75b834b42be83f190c691da5cac72f4effd5a1fbf29096"), looks := true }, kinds := [], alts := [], laidByText := true, laidKinds := [.data, .pinned], laidTests := true, laidLooks := .later }
def DecodeCutsCardSaid : Prop := Claim7.holds Tryd.pinned (.plain (OpenSpec.ofChange decodeCutsSpec)) decodeCutsCard

/-- THE TIED CARD OF 'gobolaw3.DecodeBack'. -/
def decodeBackCard : Claim7 := { stood := { row := decodeBackRow, standIns := [], harness := (true, "d81085ed4cf5ad674b75b834b42be83f190c691da5cac72f4effd5a1fbf29096"), looks := true }, kinds := [], alts := [], laidByText := true, laidKinds := [.data, .pinned], laidTests := true, laidLooks := .later }
def DecodeBackCardSaid : Prop := Claim7.holds Tryd.pinned (.plain (OpenSpec.ofChange decodeBackSpec)) decodeBackCard

/-- THE TIED CARD OF 'gobolaw3.DecodeParts'. -/
def decodePartsCard : Claim7 := { stood := { row := decodePartsRow, standIns := [], harness := (true, "d81085ed4cf5ad674b75b834b42be83f190c691da5cac72f4effd5a1fbf29096"), looks := true }, kinds := [], alts := [], laidByText := true, laidKinds := [.data, .pinned], laidTests := true, laidLooks := .later }
def DecodePartsCardSaid : Prop := Claim7.holds Tryd.pinned (.plain (OpenSpec.ofChange decodePartsSpec)) decodePartsCard

/-- THE TIED CARD OF 'gobolaw3.DecodeBad'. -/
def decodeBadCard : Claim7 := { stood := { row := decodeBadRow, standIns := [], harness := (true, "d81085ed4cf5ad674b75b834b42be83f190c691da5cac72f4effd5a1fbf29096"), looks := true }, kinds := [], alts := [], laidByText := true, laidKinds := [.data, .pinned], laidTests := true, laidLooks := .later }
def DecodeBadCardSaid : Prop := Claim7.holds Tryd.pinned (.plain (OpenSpec.ofChange decodeBadSpec)) decodeBadCard

/-- THE TIED CARD OF 'gobolaw3.DecodeHeld'. -/
def decodeHeldCard : Claim7 := { stood := { row := decodeHeldRow, standIns := [], harness := (true, "d81085ed4cf5ad674b75b834b42be83f190c691da5cac72f4effd5a1fbf29096"), looks := true }, kinds := [], alts := [], laidByText := true, laidKinds := [.data, .pinned], laidTests := true, laidLooks := .later }
def DecodeHeldCardSaid : Prop := Claim7.holds Tryd.pinned (.plain (OpenSpec.ofChange decodeHeldSpec)) decodeHeldCard

/-- THE SECOND FORM's CARD OF 'gobolaw3.DecodeAsks'. -/
def decodeAsksUptoCard : Claim7 := { stood := { row := decodeAsksUptoRow, standIns := [], harness := (true, "d81085ed4cf5ad674b75b834b42be83f190c691da5cac72f4effd5a1fbf29096"), looks := true }, kinds := [], alts := [], laidByText := true, laidKinds := [.data, .pinned], laidTests := true, laidLooks := .later }
def DecodeAsksUptoCardSaid : Prop := Claim7.holds Tryd.pinned (.plain (OpenSpec.upto decodeAsksSpec)) decodeAsksUptoCard

/-- THE SECOND FORM's CARD OF 'gobolaw3.DecodeCuts'. -/
def decodeCutsUptoCard : Claim7 := { stood := { row := decodeCutsUptoRow, standIns := [], harness := (true, "d81085ed4cf5ad674b75b834b42be83f190c691da5cac72f4effd5a1fbf29096"), looks := true }, kinds := [], alts := [], laidByText := true, laidKinds := [.data, .pinned], laidTests := true, laidLooks := .later }
def DecodeCutsUptoCardSaid : Prop := Claim7.holds Tryd.pinned (.plain (OpenSpec.upto decodeCutsSpec)) decodeCutsUptoCard

/-- THE SECOND FORM's CARD OF 'gobolaw3.DecodeBack'. -/
def decodeBackUptoCard : Claim7 := { stood := { row := decodeBackUptoRow, standIns := [], harness := (true, "d81085ed4cf5ad674b75b834b42be83f190c691da5cac72f4effd5a1fbf29096"), looks := true }, kinds := [], alts := [], laidByText := true, laidKinds := [.data, .pinned], laidTests := true, laidLooks := .later }
def DecodeBackUptoCardSaid : Prop := Claim7.holds Tryd.pinned (.plain (OpenSpec.upto decodeBackSpec)) decodeBackUptoCard

/-- THE SECOND FORM's CARD OF 'gobolaw3.DecodeParts'. -/
def decodePartsUptoCard : Claim7 := { stood := { row := decodePartsUptoRow, standIns := [], harness := (true, "d81085ed4cf5ad674b75b834b42be83f190c691da5cac72f4effd5a1fbf29096"), looks := true }, kinds := [], alts := [], laidByText := true, laidKinds := [.data, .pinned], laidTests := true, laidLooks := .later }
def DecodePartsUptoCardSaid : Prop := Claim7.holds Tryd.pinned (.plain (OpenSpec.upto decodePartsSpec)) decodePartsUptoCard

/-- THE SECOND FORM's CARD OF 'gobolaw3.DecodeBad'. -/
def decodeBadUptoCard : Claim7 := { stood := { row := decodeBadUptoRow, standIns := [], harness := (true, "d81085ed4cf5ad674b75b834b42be83f190c691da5cac72f4effd5a1fbf29096"), looks := true }, kinds := [], alts := [], laidByText := true, laidKinds := [.data, .pinned], laidTests := true, laidLooks := .later }
def DecodeBadUptoCardSaid : Prop := Claim7.holds Tryd.pinned (.plain (OpenSpec.upto decodeBadSpec)) decodeBadUptoCard

/-- THE SECOND FORM's CARD OF 'gobolaw3.DecodeHeld'. -/
def decodeHeldUptoCard : Claim7 := { stood := { row := decodeHeldUptoRow, standIns := [], harness := (true, "d81085ed4cf5ad674b75b834b42be83f190c691da5cac72f4effd5a1fbf29096"), looks := true }, kinds := [], alts := [], laidByText := true, laidKinds := [.data, .pinned], laidTests := true, laidLooks := .later }
def DecodeHeldUptoCardSaid : Prop := Claim7.holds Tryd.pinned (.plain (OpenSpec.upto decodeHeldSpec)) decodeHeldUptoCard
end Rows
end Go.Proofs.YtlopjkfhkfbhlaaDoor
