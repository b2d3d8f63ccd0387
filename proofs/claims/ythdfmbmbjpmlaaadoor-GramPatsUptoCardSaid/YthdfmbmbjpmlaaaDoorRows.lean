/-
  NARROWER THAN 'FOR EVERY INPUT', by the rows' own cells (each row's printed sentence says how): GramPats: laid · GramBreaks: laid · GramLimits: laid.
  DERIVED. THE GIVEN ROWS OF THIS SEAT. 3 by the template 'for every input the law returns true; each argument reads behind the call as it read before'; 0 by the template 'total and deterministic' (their statements: YthdfmbmbjpmlaaaDoorTotals.lean).
  GIVEN WITH THE SEED: the statements are not yours to turn. If you find one false, say at which input.
  Laid BY PROGRAM, IN A SANDBOX (cutbox-rows.mjs): the forced cells as the released guide's own fill.sh prints them over the translation f0b19a93313bd549… (all of the seat's roots in one cut). By AI agents, Wed Nov 11 2026. No macro, syntax, notation, axiom, sorry.
-/
import Derived.Test.YthdfmbmbjpmlaaaDoorChecked
import GoSem.Claim
import GoSem.ClaimJoined
import GoSem.ClaimMapViews
import Derived.JoinedTies
import Derived.KernelRfl
namespace Go.Proofs.YthdfmbmbjpmlaaaDoor
/- THE CELL 'sum', in the pinned program and in every row, IS THE sha256 OF THE DUMP (.gsa) THAT YthdfmbmbjpmlaaaDoorProg.lean LOADS. Nothing in Lean hashes anything: it is a label: what it is worth is what the hold of that sum in a sandbox is worth. -/
noncomputable def Tryd.pinned : Pinned := { name := "ythdfmbmbjpmlaaadoor", sum := "f0b19a93313bd5493ca112a9d01b742b96e947a9dfb06972cf3dc77ea637bb04", checked := Tryd.checked }
namespace Rows
def none {H : Type} : Left H := { results := [], args := [] }

/- WHAT THE LISTED PACKAGE-LEVEL VARIABLES READ AS WHEN THE CALL BEGINS. Each datum BY PROGRAM (the guide's laid-datum.mjs) off the statement by which the dump's own 'gosem.cut.vars' lays the variable. In a bare row this is a premise. The card (YthdfmbmbjpmlaaaDoorCards.lean) ties it to the program's text. -/
def laid_gobo_gram_own {H : Type} : DataW H := .agg [.lit (.string [116, 111, 107]), .lit (.string [114, 117, 108, 101]), .lit (.string [105, 110, 116]), .lit (.string [99, 97, 108, 108]), .lit (.string [114, 101, 116]), .lit (.string [102, 114, 101, 101])]

/-- 'gobolaw11.GramPats': WHATEVER THE INPUT: true; the input reads as it did. -/
def gramPatsSpec : ChangeSpec := { name := "gramPats", fn := fun _ => fun
  | [d1, d2, d3] => { results := [.lit (.bool true)], args := [d1, d2, d3] }
  | _ => none }
def gramPatsRow : OpenClaim := { program := "ythdfmbmbjpmlaaadoor", sum := "f0b19a93313bd5493ca112a9d01b742b96e947a9dfb06972cf3dc77ea637bb04", func := "gobo/gobolaw11.GramPats", spec := "gramPats", unfollowed := true, recurses := true, named := ["gobo/gram.own"], apart := false, laid := [("gobo/gram.own", laid_gobo_gram_own)] }
def GramPatsSaid : Prop := gramPatsRow.holds Tryd.pinned (OpenSpec.ofChange gramPatsSpec)

/-- ITS FALSE NEIGHBOUR: 'it returns false'. Refute it at one input. -/
def gramPatsWrong : ChangeSpec := { name := "gramPats", fn := fun _ => fun
  | [d1, d2, d3] => { results := [.lit (.bool false)], args := [d1, d2, d3] }
  | _ => none }
def GramPatsWrongFalsely : Prop := gramPatsRow.holds Tryd.pinned (OpenSpec.ofChange gramPatsWrong)

/-- 'gobolaw11.GramBreaks': WHATEVER THE INPUT: true; the input reads as it did. -/
def gramBreaksSpec : ChangeSpec := { name := "gramBreaks", fn := fun _ => fun
  | [d1, d2] => { results := [.lit (.bool true)], args := [d1, d2] }
  | _ => none }
def gramBreaksRow : OpenClaim := { program := "ythdfmbmbjpmlaaadoor", sum := "f0b19a93313bd5493ca112a9d01b742b96e947a9dfb06972cf3dc77ea637bb04", func := "gobo/gobolaw11.GramBreaks", spec := "gramBreaks", unfollowed := true, recurses := true, named := ["gobo/gram.own"], apart := false, laid := [("gobo/gram.own", laid_gobo_gram_own)] }
def GramBreaksSaid : Prop := gramBreaksRow.holds Tryd.pinned (OpenSpec.ofChange gramBreaksSpec)

/-- ITS FALSE NEIGHBOUR: 'it returns false'. Refute it at one input. -/
def gramBreaksWrong : ChangeSpec := { name := "gramBreaks", fn := fun _ => fun
  | [d1, d2] => { results := [.lit (.bool false)], args := [d1, d2] }
  | _ => none }
def GramBreaksWrongFalsely : Prop := gramBreaksRow.holds Tryd.pinned (OpenSpec.ofChange gramBreaksWrong)

/-- 'gobolaw11.GramLimits': WHATEVER THE INPUT: true; the input reads as it did. -/
def gramLimitsSpec : ChangeSpec := { name := "gramLimits", fn := fun _ => fun
  | [d1, d2] => { results := [.lit (.bool true)], args := [d1, d2] }
  | _ => none }
def gramLimitsRow : OpenClaim := { program := "ythdfmbmbjpmlaaadoor", sum := "f0b19a93313bd5493ca112a9d01b742b96e947a9dfb06972cf3dc77ea637bb04", func := "gobo/gobolaw11.GramLimits", spec := "gramLimits", unfollowed := true, recurses := true, named := ["gobo/gram.own"], apart := false, laid := [("gobo/gram.own", laid_gobo_gram_own)] }
def GramLimitsSaid : Prop := gramLimitsRow.holds Tryd.pinned (OpenSpec.ofChange gramLimitsSpec)

/-- ITS FALSE NEIGHBOUR: 'it returns false'. Refute it at one input. -/
def gramLimitsWrong : ChangeSpec := { name := "gramLimits", fn := fun _ => fun
  | [d1, d2] => { results := [.lit (.bool false)], args := [d1, d2] }
  | _ => none }
def GramLimitsWrongFalsely : Prop := gramLimitsRow.holds Tryd.pinned (OpenSpec.ofChange gramLimitsWrong)

/- THE SECOND FORM. 'bulk': how many values and letters a reading holds, each counted each time it is reached (what is shared counts as often as it is met; a slice's spare places count too). A statement '..UptoSaid' is the law's where the arguments, and the package variables that the reading takes, are together of bulk at most 1048576: NARROWER than '..Said'. Prove '..Said' where nothing that the law and all that it calls make is longer than what came in: it says more and counts as full. Else prove '..UptoSaid'. A law counts once. -/
mutual
def uptoBulk {H : Type} : DataW H → Nat
  | .lit (.string bytes) => bytes.length + 1
  | .lit _ => 1
  | .nil => 1
  | .ptr d => uptoBulk d + 1
  | .slice elems spare => uptoBulkAll elems + uptoBulkAll spare + 1
  | .agg parts => uptoBulkAll parts + 1
  | .iface _ d => uptoBulk d + 1
  | .map entries => uptoBulkEntries entries + 1
  | .held _ => 1
def uptoBulkAll {H : Type} : List (DataW H) → Nat
  | [] => 0
  | d :: r => uptoBulk d + uptoBulkAll r
def uptoBulkEntries {H : Type} : List (Lit × DataW H) → Nat
  | [] => 0
  | x :: r => uptoBulkEntry x + uptoBulkEntries r
def uptoBulkEntry {H : Type} : Lit × DataW H → Nat
  | (.string bytes, d) => bytes.length + uptoBulk d + 1
  | (_, d) => uptoBulk d + 1
 end
def uptoSmall : (H : Type) → List (DataW H) → Bool := fun _ ds => decide (uptoBulkAll ds ≤ 1048576)
def OpenSpec.upto (s : _root_.Go.ChangeSpec) : _root_.Go.OpenSpec := { _root_.Go.OpenSpec.ofChange s with cond := some uptoSmall }

/-- 'gobolaw11.GramPats', WHERE WHAT IT READS IS OF BULK AT MOST 1048576: true; the input reads as it did. -/
def gramPatsUptoRow : OpenClaim := { program := "ythdfmbmbjpmlaaadoor", sum := "f0b19a93313bd5493ca112a9d01b742b96e947a9dfb06972cf3dc77ea637bb04", func := "gobo/gobolaw11.GramPats", spec := "gramPats", unfollowed := true, recurses := true, named := ["gobo/gram.own"], apart := false, laid := [("gobo/gram.own", laid_gobo_gram_own)], narrowed := true }
def GramPatsUptoSaid : Prop := gramPatsUptoRow.holds Tryd.pinned (OpenSpec.upto gramPatsSpec)

/-- 'gobolaw11.GramBreaks', WHERE WHAT IT READS IS OF BULK AT MOST 1048576: true; the input reads as it did. -/
def gramBreaksUptoRow : OpenClaim := { program := "ythdfmbmbjpmlaaadoor", sum := "f0b19a93313bd5493ca112a9d01b742b96e947a9dfb06972cf3dc77ea637bb04", func := "gobo/gobolaw11.GramBreaks", spec := "gramBreaks", unfollowed := true, recurses := true, named := ["gobo/gram.own"], apart := false, laid := [("gobo/gram.own", laid_gobo_gram_own)], narrowed := true }
def GramBreaksUptoSaid : Prop := gramBreaksUptoRow.holds Tryd.pinned (OpenSpec.upto gramBreaksSpec)

/-- 'gobolaw11.GramLimits', WHERE WHAT IT READS IS OF BULK AT MOST 1048576: true; the input reads as it did. -/
def gramLimitsUptoRow : OpenClaim := { program := "ythdfmbmbjpmlaaadoor", sum := "f0b19a93313bd5493ca112a9d01b742b96e947a9dfb06972cf3dc77ea637bb04", func := "gobo/gobolaw11.GramLimits", spec := "gramLimits", unfollowed := true, recurses := true, named := ["gobo/gram.own"], apart := false, laid := [("gobo/gram.own", laid_gobo_gram_own)], narrowed := true }
def GramLimitsUptoSaid : Prop := gramLimitsUptoRow.holds Tryd.pinned (OpenSpec.upto gramLimitsSpec)

end Rows
end Go.Proofs.YthdfmbmbjpmlaaaDoor
