/-
  DERIVED. GIVEN WITH THE SEED: THE CARDS: each row of YthdfmbmbjpmlaaaGreatDoorRows.lean that lists a variable, with what it lists TIED to the program's text (the seventh form; the later family's looks); each row that meets fmt, with fmt's text TOLD by the authors' own Lean function (tested against real Go, not proved from fmt's source: count such statements apart). THE CARD IS WHAT COUNTS. Prove the row's statement (the work); the ties are given (YthdfmbmbjpmlaaaGreatDoorTie.lean); close each card by the builder's one call (the guide's Derived/Test/ToyasCard.lean, 'card_holds'). Laid BY PROGRAM, IN A SANDBOX (cutbox-door.mjs). By AI agents, Wed Nov 11 2026. No macro, syntax, notation, axiom, sorry.
-/
import Derived.Test.YthdfmbmbjpmlaaaGreatDoorRows
import GoSem.ClaimSeven
namespace Go.Proofs.YthdfmbmbjpmlaaaGreatDoor
namespace Rows

/-- THE TIED CARD OF 'gobolaw11.GramAsks'. -/
def gramAsksCard : Claim7 := { stood := { row := gramAsksRow, standIns := [], harness := (true, "64f1ac0a08b3315c3dfdb265b19989ae8e5a125ec38713114531f93f2b73fd15"), looks := true }, kinds := [], alts := [], laidByText := true, laidKinds := [.widerDeep], laidTests := true, laidLooks := .later }
def GramAsksCardSaid : Prop := Claim7.holds Tryz.pinned (.plain (OpenSpec.ofChange gramAsksSpec)) gramAsksCard

/-- THE SECOND FORM's CARD OF 'gobolaw11.GramAsks'. -/
def gramAsksUptoCard : Claim7 := { stood := { row := gramAsksUptoRow, standIns := [], harness := (true, "64f1ac0a08b3315c3dfdb265b19989ae8e5a125ec38713114531f93f2b73fd15"), looks := true }, kinds := [], alts := [], laidByText := true, laidKinds := [.widerDeep], laidTests := true, laidLooks := .later }
def GramAsksUptoCardSaid : Prop := Claim7.holds Tryz.pinned (.plain (OpenSpec.upto gramAsksSpec)) gramAsksUptoCard
end Rows
end Go.Proofs.YthdfmbmbjpmlaaaGreatDoor
