/-
  NARROWER THAN 'FOR EVERY INPUT', by the rows' own cells (each row's printed sentence says how): DecodeAsks: laid · DecodeCuts: laid · DecodeBack: laid · DecodeParts: laid · DecodeBad: laid · DecodeHeld: laid.
  DERIVED. THE GIVEN ROWS OF THIS SEAT. 6 by the template 'for every input the law returns true; each argument reads behind the call as it read before'; 0 by the template 'total and deterministic' (their statements: YtlopjkfhkfbhlaaDoorTotals.lean).
  GIVEN WITH THE SEED: the statements are not yours to turn. If you find one false, say at which input.
  Laid BY PROGRAM, IN A SANDBOX (cutbox-rows.mjs): the forced cells as the released guide's own fill.sh prints them over the translation 4c1a6e7e311ddac6… (all of the seat's roots in one cut). By AI agents, Wed Nov 11 2026. No macro, syntax, notation, axiom, sorry.
-/
import Derived.Test.YtlopjkfhkfbhlaaDoorChecked
import GoSem.PinnedTables
import GoSem.Claim
import GoSem.ClaimJoined
import GoSem.ClaimMapViews
import Derived.JoinedTies
import Derived.KernelRfl
namespace Go.Proofs.YtlopjkfhkfbhlaaDoor
/- THE CELL 'sum', in the pinned program and in every row, IS THE sha256 OF THE DUMP (.gsa) THAT YtlopjkfhkfbhlaaDoorProg.lean LOADS. Nothing in Lean hashes anything: it is a label: what it is worth is what the hold of that sum in a sandbox is worth. -/
noncomputable def Tryd.pinned : Pinned := { name := "ytlopjkfhkfbhlaadoor", sum := "4c1a6e7e311ddac658df6f7bc12871ea27647c1b0efd71aeb88e76b93b3cfee2", checked := Tryd.checked }
namespace Rows
def none {H : Type} : Left H := { results := [], args := [] }

/- WHAT THE LISTED PACKAGE-LEVEL VARIABLES READ AS WHEN THE CALL BEGINS. Each datum BY PROGRAM (the guide's laid-datum.mjs) off the statement by which the dump's own 'gosem.cut.vars' lays the variable. In a bare row this is a premise. The card (YtlopjkfhkfbhlaaDoorCards.lean) ties it to the program's text. -/
def laid_unicode_utf8_acceptRanges {H : Type} : DataW H := .agg [.agg [.lit (.int .u8 128), .lit (.int .u8 191)], .agg [.lit (.int .u8 160), .lit (.int .u8 191)], .agg [.lit (.int .u8 128), .lit (.int .u8 159)], .agg [.lit (.int .u8 144), .lit (.int .u8 191)], .agg [.lit (.int .u8 128), .lit (.int .u8 143)], .agg [.lit (.int .u8 0), .lit (.int .u8 0)], .agg [.lit (.int .u8 0), .lit (.int .u8 0)], .agg [.lit (.int .u8 0), .lit (.int .u8 0)], .agg [.lit (.int .u8 0), .lit (.int .u8 0)], .agg [.lit (.int .u8 0), .lit (.int .u8 0)], .agg [.lit (.int .u8 0), .lit (.int .u8 0)], .agg [.lit (.int .u8 0), .lit (.int .u8 0)], .agg [.lit (.int .u8 0), .lit (.int .u8 0)], .agg [.lit (.int .u8 0), .lit (.int .u8 0)], .agg [.lit (.int .u8 0), .lit (.int .u8 0)], .agg [.lit (.int .u8 0), .lit (.int .u8 0)]]
/-- One of Go's own tables, pinned by name: the form's constant. -/
def laid_unicode_utf8_first : DataW Unit := Go.Pinned.utf8First

/-- 'gobolaw3.DecodeAsks': WHATEVER THE INPUT: true; the input reads as it did. -/
def decodeAsksSpec : ChangeSpec := { name := "decodeAsks", fn := fun _ => fun
  | [d1, d2] => { results := [.lit (.bool true)], args := [d1, d2] }
  | _ => none }
def decodeAsksRow : OpenClaim := { program := "ytlopjkfhkfbhlaadoor", sum := "4c1a6e7e311ddac658df6f7bc12871ea27647c1b0efd71aeb88e76b93b3cfee2", func := "gobo/gobolaw3.DecodeAsks", spec := "decodeAsks", unfollowed := true, recurses := true, named := ["unicode/utf8.first", "unicode/utf8.acceptRanges"], apart := false, laid := [("unicode/utf8.acceptRanges", laid_unicode_utf8_acceptRanges), ("unicode/utf8.first", laid_unicode_utf8_first)] }
def DecodeAsksSaid : Prop := decodeAsksRow.holds Tryd.pinned (OpenSpec.ofChange decodeAsksSpec)

/-- ITS FALSE NEIGHBOUR: 'it returns false'. Refute it at one input. -/
def decodeAsksWrong : ChangeSpec := { name := "decodeAsks", fn := fun _ => fun
  | [d1, d2] => { results := [.lit (.bool false)], args := [d1, d2] }
  | _ => none }
def DecodeAsksWrongFalsely : Prop := decodeAsksRow.holds Tryd.pinned (OpenSpec.ofChange decodeAsksWrong)

/-- 'gobolaw3.DecodeCuts': WHATEVER THE INPUT: true; the input reads as it did. -/
def decodeCutsSpec : ChangeSpec := { name := "decodeCuts", fn := fun _ => fun
  | [d1, d2] => { results := [.lit (.bool true)], args := [d1, d2] }
  | _ => none }
def decodeCutsRow : OpenClaim := { program := "ytlopjkfhkfbhlaadoor", sum := "4c1a6e7e311ddac658df6f7bc12871ea27647c1b0efd71aeb88e76b93b3cfee2", func := "gobo/gobolaw3.DecodeCuts", spec := "decodeCuts", unfollowed := true, recurses := true, named := ["unicode/utf8.first", "unicode/utf8.acceptRanges"], apart := false, laid := [("unicode/utf8.acceptRanges", laid_unicode_utf8_acceptRanges), ("unicode/utf8.first", laid_unicode_utf8_first)] }
def DecodeCutsSaid : Prop := decodeCutsRow.holds Tryd.pinned (OpenSpec.ofChange decodeCutsSpec)

/-- ITS FALSE NEIGHBOUR: 'it returns false'. Refute it at one input. -/
def decodeCutsWrong : ChangeSpec := { name := "decodeCuts", fn := fun _ => fun
  | [d1, d2] => { results := [.lit (.bool false)], args := [d1, d2] }
  | _ => none }
def DecodeCutsWrongFalsely : Prop := decodeCutsRow.holds Tryd.pinned (OpenSpec.ofChange decodeCutsWrong)

/-- 'gobolaw3.DecodeBack': WHATEVER THE INPUT: true; the input reads as it did. -/
def decodeBackSpec : ChangeSpec := { name := "decodeBack", fn := fun _ => fun
  | [d] => { results := [.lit (.bool true)], args := [d] }
  | _ => none }
def decodeBackRow : OpenClaim := { program := "ytlopjkfhkfbhlaadoor", sum := "4c1a6e7e311ddac658df6f7bc12871ea27647c1b0efd71aeb88e76b93b3cfee2", func := "gobo/gobolaw3.DecodeBack", spec := "decodeBack", unfollowed := true, recurses := true, named := ["unicode/utf8.first", "unicode/utf8.acceptRanges"], apart := false, laid := [("unicode/utf8.acceptRanges", laid_unicode_utf8_acceptRanges), ("unicode/utf8.first", laid_unicode_utf8_first)] }
def DecodeBackSaid : Prop := decodeBackRow.holds Tryd.pinned (OpenSpec.ofChange decodeBackSpec)

/-- ITS FALSE NEIGHBOUR: 'it returns false'. Refute it at one input. -/
def decodeBackWrong : ChangeSpec := { name := "decodeBack", fn := fun _ => fun
  | [d] => { results := [.lit (.bool false)], args := [d] }
  | _ => none }
def DecodeBackWrongFalsely : Prop := decodeBackRow.holds Tryd.pinned (OpenSpec.ofChange decodeBackWrong)

/-- 'gobolaw3.DecodeParts': WHATEVER THE INPUT: true; the input reads as it did. -/
def decodePartsSpec : ChangeSpec := { name := "decodeParts", fn := fun _ => fun
  | [d] => { results := [.lit (.bool true)], args := [d] }
  | _ => none }
def decodePartsRow : OpenClaim := { program := "ytlopjkfhkfbhlaadoor", sum := "4c1a6e7e311ddac658df6f7bc12871ea27647c1b0efd71aeb88e76b93b3cfee2", func := "gobo/gobolaw3.DecodeParts", spec := "decodeParts", unfollowed := true, recurses := true, named := ["unicode/utf8.first", "unicode/utf8.acceptRanges"], apart := false, laid := [("unicode/utf8.acceptRanges", laid_unicode_utf8_acceptRanges), ("unicode/utf8.first", laid_unicode_utf8_first)] }
def DecodePartsSaid : Prop := decodePartsRow.holds Tryd.pinned (OpenSpec.ofChange decodePartsSpec)

/-- ITS FALSE NEIGHBOUR: 'it returns false'. Refute it at one input. -/
def decodePartsWrong : ChangeSpec := { name := "decodeParts", fn := fun _ => fun
  | [d] => { results := [.lit (.bool false)], args := [d] }
  | _ => none }
def DecodePartsWrongFalsely : Prop := decodePartsRow.holds Tryd.pinned (OpenSpec.ofChange decodePartsWrong)

/-- 'gobolaw3.DecodeBad': WHATEVER THE INPUT: true; the input reads as it did. -/
def decodeBadSpec : ChangeSpec := { name := "decodeBad", fn := fun _ => fun
  | [d1, d2] => { results := [.lit (.bool true)], args := [d1, d2] }
  | _ => none }
def decodeBadRow : OpenClaim := { program := "ytlopjkfhkfbhlaadoor", sum := "4c1a6e7e311ddac658df6f7bc12871ea27647c1b0efd71aeb88e76b93b3cfee2", func := "gobo/gobolaw3.DecodeBad", spec := "decodeBad", unfollowed := true, recurses := true, named := ["unicode/utf8.first", "unicode/utf8.acceptRanges"], apart := false, laid := [("unicode/utf8.acceptRanges", laid_unicode_utf8_acceptRanges), ("unicode/utf8.first", laid_unicode_utf8_first)] }
def DecodeBadSaid : Prop := decodeBadRow.holds Tryd.pinned (OpenSpec.ofChange decodeBadSpec)

/-- ITS FALSE NEIGHBOUR: 'it returns false'. Refute it at one input. -/
def decodeBadWrong : ChangeSpec := { name := "decodeBad", fn := fun _ => fun
  | [d1, d2] => { results := [.lit (.bool false)], args := [d1, d2] }
  | _ => none }
def DecodeBadWrongFalsely : Prop := decodeBadRow.holds Tryd.pinned (OpenSpec.ofChange decodeBadWrong)

/-- 'gobolaw3.DecodeHeld': WHATEVER THE INPUT: true; the input reads as it did. -/
def decodeHeldSpec : ChangeSpec := { name := "decodeHeld", fn := fun _ => fun
  | [d1, d2] => { results := [.lit (.bool true)], args := [d1, d2] }
  | _ => none }
def decodeHeldRow : OpenClaim := { program := "ytlopjkfhkfbhlaadoor", sum := "4c1a6e7e311ddac658df6f7bc12871ea27647c1b0efd71aeb88e76b93b3cfee2", func := "gobo/gobolaw3.DecodeHeld", spec := "decodeHeld", unfollowed := true, recurses := true, named := ["unicode/utf8.first", "unicode/utf8.acceptRanges"], apart := false, laid := [("unicode/utf8.acceptRanges", laid_unicode_utf8_acceptRanges), ("unicode/utf8.first", laid_unicode_utf8_first)] }
def DecodeHeldSaid : Prop := decodeHeldRow.holds Tryd.pinned (OpenSpec.ofChange decodeHeldSpec)

/-- ITS FALSE NEIGHBOUR: 'it returns false'. Refute it at one input. -/
def decodeHeldWrong : ChangeSpec := { name := "decodeHeld", fn := fun _ => fun
  | [d1, d2] => { results := [.lit (.bool false)], args := [d1, d2] }
  | _ => none }
def DecodeHeldWrongFalsely : Prop := decodeHeldRow.holds Tryd.pinned (OpenSpec.ofChange decodeHeldWrong)

/- THE SECOND FORM. 'bulk': how many values and letters a reading holds, each counted each time it is reached (what is shared counts as often as it is met; a slice's spare places count too). A statement '..UptoSaid' is the law's where the arguments, and the package variables that the reading takes, are together of bulk at most 1048576: NARROWER than '..Said'. Prove '..Said' where nothing that the law and all that it calls make is longer than what came in: it says more and counts as full. Else prove '..UptoSaid'. A law counts once. -/
mutual
def uptoBulk {H : Type} : DataW H → Nat
  | .lit (.string bytes) => bytes.length + 1
  | .lit _ => 1
  | .nil => 1
  | .ptr d => uptoBulk d + 1
  | .slice elems spare => uptoBulkAll elems + uptoBulkAll spare + 1
  | .agg parts => uptoBulkAll parts + 1
  | .iface _ d => uptoBulk d + 1
  | .map entries => uptoBulkEntries entries + 1
  | .held _ => 1
def uptoBulkAll {H : Type} : List (DataW H) → Nat
  | [] => 0
  | d :: r => uptoBulk d + uptoBulkAll r
def uptoBulkEntries {H : Type} : List (Lit × DataW H) → Nat
  | [] => 0
  | x :: r => uptoBulkEntry x + uptoBulkEntries r
def uptoBulkEntry {H : Type} : Lit × DataW H → Nat
  | (.string bytes, d) => bytes.length + uptoBulk d + 1
  | (_, d) => uptoBulk d + 1
 end
def uptoSmall : (H : Type) → List (DataW H) → Bool := fun _ ds => decide (uptoBulkAll ds ≤ 1048576)
def OpenSpec.upto (s : _root_.Go.ChangeSpec) : _root_.Go.OpenSpec := { _root_.Go.OpenSpec.ofChange s with cond := some uptoSmall }

/-- 'gobolaw3.DecodeAsks', WHERE WHAT IT READS IS OF BULK AT MOST 1048576: true; the input reads as it did. -/
def decodeAsksUptoRow : OpenClaim := { program := "ytlopjkfhkfbhlaadoor", sum := "4c1a6e7e311ddac658df6f7bc12871ea27647c1b0efd71aeb88e76b93b3cfee2", func := "gobo/gobolaw3.DecodeAsks", spec := "decodeAsks", unfollowed := true, recurses := true, named := ["unicode/utf8.first", "unicode/utf8.acceptRanges"], apart := false, laid := [("unicode/utf8.acceptRanges", laid_unicode_utf8_acceptRanges), ("unicode/utf8.first", laid_unicode_utf8_first)], narrowed := true }
def DecodeAsksUptoSaid : Prop := decodeAsksUptoRow.holds Tryd.pinned (OpenSpec.upto decodeAsksSpec)

/-- 'gobolaw3.DecodeCuts', WHERE WHAT IT READS IS OF BULK AT MOST 1048576: true; the input reads as it did. -/
def decodeCutsUptoRow : OpenClaim := { program := "ytlopjkfhkfbhlaadoor", sum := "4c1a6e7e311ddac658df6f7bc12871ea27647c1b0efd71aeb88e76b93b3cfee2", func := "gobo/gobolaw3.DecodeCuts", spec := "decodeCuts", unfollowed := true, recurses := true, named := ["unicode/utf8.first", "unicode/utf8.acceptRanges"], apart := false, laid := [("unicode/utf8.acceptRanges", laid_unicode_utf8_acceptRanges), ("unicode/utf8.first", laid_unicode_utf8_first)], narrowed := true }
def DecodeCutsUptoSaid : Prop := decodeCutsUptoRow.holds Tryd.pinned (OpenSpec.upto decodeCutsSpec)

/-- 'gobolaw3.DecodeBack', WHERE WHAT IT READS IS OF BULK AT MOST 1048576: true; the input reads as it did. -/
def decodeBackUptoRow : OpenClaim := { program := "ytlopjkfhkfbhlaadoor", sum := "4c1a6e7e311ddac658df6f7bc12871ea27647c1b0efd71aeb88e76b93b3cfee2", func := "gobo/gobolaw3.DecodeBack", spec := "decodeBack", unfollowed := true, recurses := true, named := ["unicode/utf8.first", "unicode/utf8.acceptRanges"], apart := false, laid := [("unicode/utf8.acceptRanges", laid_unicode_utf8_acceptRanges), ("unicode/utf8.first", laid_unicode_utf8_first)], narrowed := true }
def DecodeBackUptoSaid : Prop := decodeBackUptoRow.holds Tryd.pinned (OpenSpec.upto decodeBackSpec)

/-- 'gobolaw3.DecodeParts', WHERE WHAT IT READS IS OF BULK AT MOST 1048576: true; the input reads as it did. -/
def decodePartsUptoRow : OpenClaim := { program := "ytlopjkfhkfbhlaadoor", sum := "4c1a6e7e311ddac658df6f7bc12871ea27647c1b0efd71aeb88e76b93b3cfee2", func := "gobo/gobolaw3.DecodeParts", spec := "decodeParts", unfollowed := true, recurses := true, named := ["unicode/utf8.first", "unicode/utf8.acceptRanges"], apart := false, laid := [("unicode/utf8.acceptRanges", laid_unicode_utf8_acceptRanges), ("unicode/utf8.first", laid_unicode_utf8_first)], narrowed := true }
def DecodePartsUptoSaid : Prop := decodePartsUptoRow.holds Tryd.pinned (OpenSpec.upto decodePartsSpec)

/-- 'gobolaw3.DecodeBad', WHERE WHAT IT READS IS OF BULK AT MOST 1048576: true; the input reads as it did. -/
def decodeBadUptoRow : OpenClaim := { program := "ytlopjkfhkfbhlaadoor", sum := "4c1a6e7e311ddac658df6f7bc12871ea27647c1b0efd71aeb88e76b93b3cfee2", func := "gobo/gobolaw3.DecodeBad", spec := "decodeBad", unfollowed := true, recurses := true, named := ["unicode/utf8.first", "unicode/utf8.acceptRanges"], apart := false, laid := [("unicode/utf8.acceptRanges", laid_unicode_utf8_acceptRanges), ("unicode/utf8.first", laid_unicode_utf8_first)], narrowed := true }
def DecodeBadUptoSaid : Prop := decodeBadUptoRow.holds Tryd.pinned (OpenSpec.upto decodeBadSpec)

/-- 'gobolaw3.DecodeHeld', WHERE WHAT IT READS IS OF BULK AT MOST 1048576: true; the input reads as it did. -/
def decodeHeldUptoRow : OpenClaim := { program := "ytlopjkfhkfbhlaadoor", sum := "4c1a6e7e311ddac658df6f7bc12871ea27647c1b0efd71aeb88e76b93b3cfee2", func := "gobo/gobolaw3.DecodeHeld", spec := "decodeHeld", unfollowed := true, recurses := true, named := ["unicode/utf8.first", "unicode/utf8.acceptRanges"], apart := false, laid := [("unicode/utf8.acceptRanges", laid_unicode_utf8_acceptRanges), ("unicode/utf8.first", laid_unicode_utf8_first)], narrowed := true }
def DecodeHeldUptoSaid : Prop := decodeHeldUptoRow.holds Tryd.pinned (OpenSpec.upto decodeHeldSpec)

end Rows
end Go.Proofs.YtlopjkfhkfbhlaaDoor
