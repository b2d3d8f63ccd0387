/-
  NARROWER THAN 'FOR EVERY INPUT', by the rows' own cells (each row's printed sentence says how): GramAsks: loops, laid.
  DERIVED. THE GIVEN ROWS OF THIS SEAT. 1 by the template 'for every input the law returns true; each argument reads behind the call as it read before'; 0 by the template 'total and deterministic' (their statements: YthdfmbmbjpmlaaaGreatDoorTotals.lean).
  GIVEN WITH THE SEED: the statements are not yours to turn. If you find one false, say at which input.
  Laid BY PROGRAM, IN A SANDBOX (cutbox-rows.mjs): the forced cells as the released guide's own fill.sh prints them over the translation 99156dc19438a04f… (all of the seat's roots in one cut). By AI agents, Wed Nov 11 2026. No macro, syntax, notation, axiom, sorry.
-/
import Derived.Test.YthdfmbmbjpmlaaaGreatDoorChecked
import GoSem.Claim
import GoSem.ClaimJoined
import GoSem.ClaimMapViews
import Derived.JoinedTies
import Derived.KernelRfl
namespace Go.Proofs.YthdfmbmbjpmlaaaGreatDoor
/- THE CELL 'sum', in the pinned program and in every row, IS THE sha256 OF THE DUMP (.gsa) THAT YthdfmbmbjpmlaaaGreatDoorProg.lean LOADS. Nothing in Lean hashes anything: it is a label: what it is worth is what the hold of that sum in a sandbox is worth. -/
noncomputable def Tryz.pinned : Pinned := { name := "ythdfmbmbjpmlaaagreatdoor", sum := "99156dc19438a04f363dea67a69e7ba3b3069164bd272eedca07a8bad879bf95", checked := Tryz.checked }
namespace Rows
def none {H : Type} : Left H := { results := [], args := [] }

/- WHAT THE LISTED PACKAGE-LEVEL VARIABLES READ AS WHEN THE CALL BEGINS. Each datum BY PROGRAM (the guide's laid-datum.mjs) off the statement by which the dump's own 'gosem.cut.vars' lays the variable. In a bare row this is a premise. The card (YthdfmbmbjpmlaaaGreatDoorCards.lean) ties it to the program's text. -/
def laid_gobo_gram_own {H : Type} : DataW H := .agg [.lit (.string [116, 111, 107]), .lit (.string [114, 117, 108, 101]), .lit (.string [105, 110, 116]), .lit (.string [99, 97, 108, 108]), .lit (.string [114, 101, 116]), .lit (.string [102, 114, 101, 101])]

/-- 'gobolaw11.GramAsks': WHATEVER THE INPUT: true; the input reads as it did. -/
def gramAsksSpec : ChangeSpec := { name := "gramAsks", fn := fun _ => fun
  | [d1, d2, d3] => { results := [.lit (.bool true)], args := [d1, d2, d3] }
  | _ => none }
def gramAsksRow : OpenClaim := { program := "ythdfmbmbjpmlaaagreatdoor", sum := "99156dc19438a04f363dea67a69e7ba3b3069164bd272eedca07a8bad879bf95", func := "gobo/gobolaw11.GramAsks", spec := "gramAsks", unfollowed := true, recurses := true, named := ["gobo/gram.own"], loops := true, apart := false, laid := [("gobo/gram.own", laid_gobo_gram_own)] }
def GramAsksSaid : Prop := gramAsksRow.holds Tryz.pinned (OpenSpec.ofChange gramAsksSpec)

/-- ITS FALSE NEIGHBOUR: 'it returns false'. Refute it at one input. -/
def gramAsksWrong : ChangeSpec := { name := "gramAsks", fn := fun _ => fun
  | [d1, d2, d3] => { results := [.lit (.bool false)], args := [d1, d2, d3] }
  | _ => none }
def GramAsksWrongFalsely : Prop := gramAsksRow.holds Tryz.pinned (OpenSpec.ofChange gramAsksWrong)

/- THE SECOND FORM. 'bulk': how many values and letters a reading holds, each counted each time it is reached (what is shared counts as often as it is met; a slice's spare places count too). A statement '..UptoSaid' is the law's where the arguments, and the package variables that the reading takes, are together of bulk at most 1048576: NARROWER than '..Said'. Prove '..Said' where nothing that the law and all that it calls make is longer than what came in: it says more and counts as full. Else prove '..UptoSaid'. A law counts once. -/
mutual
def uptoBulk {H : Type} : DataW H → Nat
  | .lit (.string bytes) => bytes.length + 1
  | .lit _ => 1
  | .nil => 1
  | .ptr d => uptoBulk d + 1
  | .slice elems spare => uptoBulkAll elems + uptoBulkAll spare + 1
  | .agg parts => uptoBulkAll parts + 1
  | .iface _ d => uptoBulk d + 1
  | .map entries => uptoBulkEntries entries + 1
  | .held _ => 1
def uptoBulkAll {H : Type} : List (DataW H) → Nat
  | [] => 0
  | d :: r => uptoBulk d + uptoBulkAll r
def uptoBulkEntries {H : Type} : List (Lit × DataW H) → Nat
  | [] => 0
  | x :: r => uptoBulkEntry x + uptoBulkEntries r
def uptoBulkEntry {H : Type} : Lit × DataW H → Nat
  | (.string bytes, d) => bytes.length + uptoBulk d + 1
  | (_, d) => uptoBulk d + 1
 end
def uptoSmall : (H : Type) → List (DataW H) → Bool := fun _ ds => decide (uptoBulkAll ds ≤ 1048576)
def OpenSpec.upto (s : _root_.Go.ChangeSpec) : _root_.Go.OpenSpec := { _root_.Go.OpenSpec.ofChange s with cond := some uptoSmall }

/-- 'gobolaw11.GramAsks', WHERE WHAT IT READS IS OF BULK AT MOST 1048576: true; the input reads as it did. -/
def gramAsksUptoRow : OpenClaim := { program := "ythdfmbmbjpmlaaagreatdoor", sum := "99156dc19438a04f363dea67a69e7ba3b3069164bd272eedca07a8bad879bf95", func := "gobo/gobolaw11.GramAsks", spec := "gramAsks", unfollowed := true, recurses := true, named := ["gobo/gram.own"], loops := true, apart := false, laid := [("gobo/gram.own", laid_gobo_gram_own)], narrowed := true }
def GramAsksUptoSaid : Prop := gramAsksUptoRow.holds Tryz.pinned (OpenSpec.upto gramAsksSpec)

end Rows
end Go.Proofs.YthdfmbmbjpmlaaaGreatDoor
