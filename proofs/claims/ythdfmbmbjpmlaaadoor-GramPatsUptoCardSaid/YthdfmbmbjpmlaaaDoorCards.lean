/-
  DERIVED. GIVEN WITH THE SEED: THE CARDS: each row of YthdfmbmbjpmlaaaDoorRows.lean that lists a variable, with what it lists TIED to the program's text (the seventh form; the later family's looks); each row that meets fmt, with fmt's text TOLD by the authors' own Lean function (tested against real Go, not proved from fmt's source: count such statements apart). THE CARD IS WHAT COUNTS. Prove the row's statement (the work); the ties are given (YthdfmbmbjpmlaaaDoorTie.lean); close each card by the builder's one call (the guide's Derived/Test/ToyasCard.lean, 'card_holds'). Laid BY PROGRAM, IN A SANDBOX (cutbox-door.mjs). By AI agents, Wed Nov 11 2026. No macro, syntax, notation, axiom, sorry.
-/
import Derived.Test.YthdfmbmbjpmlaaaDoorRows
import GoSem.ClaimSeven
namespace Go.Proofs.YthdfmbmbjpmlaaaDoor
namespace Rows

/-- THE TIED CARD OF 'gobolaw11.GramPats'. -/
def gramPatsCard : Claim7 := { stood := { row := gramPatsRow, standIns := [], harness := (true, "7880dd12135154f3fab9ec5f000760274163713b6910bcf9d05eb4d2625da5df"), looks := true }, kinds := [], alts := [], laidByText := true, laidKinds := [.widerDeep], laidTests := true, laidLooks := .later }
def GramPatsCardSaid : Prop := Claim7.holds Tryd.pinned (.plain (OpenSpec.ofChange gramPatsSpec)) gramPatsCard

/-- THE TIED CARD OF 'gobolaw11.GramBreaks'. -/
def gramBreaksCard : Claim7 := { stood := { row := gramBreaksRow, standIns := [], harness := (true, "7880dd12135154f3fab9ec5f000760274163713b6910bcf9d05eb4d2625da5df"), looks := true }, kinds := [], alts := [], laidByText := true, laidKinds := [.widerDeep], laidTests := true, laidLooks := .later }
def GramBreaksCardSaid : Prop := Claim7.holds Tryd.pinned (.plain (OpenSpec.ofChange gramBreaksSpec)) gramBreaksCard

/-- THE TIED CARD OF 'gobolaw11.GramLimits'. -/
def gramLimitsCard : Claim7 := { stood := { row := gramLimitsRow, standIns := [], harness := (true, "7880dd12135154f3fab9ec5f000760274163713b6910bcf9d05eb4d2625da5df"), looks := true }, kinds := [], alts := [], laidByText := true, laidKinds := [.widerDeep], laidTests := true, laidLooks := .later }
def GramLimitsCardSaid : Prop := Claim7.holds Tryd.pinned (.plain (OpenSpec.ofChange gramLimitsSpec)) gramLimitsCard

/-- THE SECOND FORM's CARD OF 'gobolaw11.GramPats'. -/
def gramPatsUptoCard : Claim7 := { stood := { row := gramPatsUptoRow, standIns := [], harness := (true, "7880dd12135154f3fab9ec5f000760274163713b6910bcf9d05eb4d2625da5df"), looks := true }, kinds := [], alts := [], laidByText := true, laidKinds := [.widerDeep], laidTests := true, laidLooks := .later }
def GramPatsUptoCardSaid : Prop := Claim7.holds Tryd.pinned (.plain (OpenSpec.upto gramPatsSpec)) gramPatsUptoCard

/-- THE SECOND FORM's CARD OF 'gobolaw11.GramBreaks'. -/
def gramBreaksUptoCard : Claim7 := { stood := { row := gramBreaksUptoRow, standIns := [], harness := (true, "7880dd12135154f3fab9ec5f000760274163713b6910bcf9d05eb4d2625da5df"), looks := true }, kinds := [], alts := [], laidByText := true, laidKinds := [.widerDeep], laidTests := true, laidLooks := .later }
def GramBreaksUptoCardSaid : Prop := Claim7.holds Tryd.pinned (.plain (OpenSpec.upto gramBreaksSpec)) gramBreaksUptoCard

/-- THE SECOND FORM's CARD OF 'gobolaw11.GramLimits'. -/
def gramLimitsUptoCard : Claim7 := { stood := { row := gramLimitsUptoRow, standIns := [], harness := (true, "7880dd12135154f3fab9ec5f000760274163713b6910bcf9d05eb4d2625da5df"), looks := true }, kinds := [], alts := [], laidByText := true, laidKinds := [.widerDeep], laidTests := true, laidLooks := .later }
def GramLimitsUptoCardSaid : Prop := Claim7.holds Tryd.pinned (.plain (OpenSpec.upto gramLimitsSpec)) gramLimitsUptoCard
end Rows
end Go.Proofs.YthdfmbmbjpmlaaaDoor
