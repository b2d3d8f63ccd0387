/-
  No cell of these rows narrows 'for every input' (looked for: loops, veiled, ifaces, maps, wideKeys, modest, calm, conditions, laid).
  DERIVED. THE GIVEN ROWS OF THIS SEAT. 6 by the template 'for every input the law returns true; each argument reads behind the call as it read before'; 0 by the template 'total and deterministic' (their statements: YtmmdnjooddhhoaaTotals.lean).
  GIVEN WITH THE SEED: the statements are not yours to turn. If you find one false, say at which input.
  Laid BY PROGRAM, IN A SANDBOX (cutbox-rows.mjs): the forced cells as the released guide's own fill.sh prints them over the translation a4f6d9f9cff14168… (all of the seat's roots in one cut). By AI agents, Wed Nov 11 2026. No macro, syntax, notation, axiom, sorry.
-/
import Derived.Test.YtmmdnjooddhhoaaChecked
import GoSem.Claim
import GoSem.ClaimJoined
import GoSem.ClaimMapViews
import Derived.JoinedTies
import Derived.KernelRfl
namespace Go.Proofs.Ytmmdnjooddhhoaa
/- THE CELL 'sum', in the pinned program and in every row, IS THE sha256 OF THE DUMP (.gsa) THAT YtmmdnjooddhhoaaProg.lean LOADS. Nothing in Lean hashes anything: it is a label: what it is worth is what the hold of that sum in a sandbox is worth. -/
noncomputable def Try.pinned : Pinned := { name := "ytmmdnjooddhhoaa", sum := "a4f6d9f9cff14168fa5bec7bdb764e99221e6449c5a7349fe757a9a8b38cc2c4", checked := Try.checked }
namespace Rows
def none {H : Type} : Left H := { results := [], args := [] }

/-- 'gobolaw5.RunesAsks': WHATEVER THE INPUT: true; the input reads as it did. -/
def runesAsksSpec : ChangeSpec := { name := "runesAsks", fn := fun _ => fun
  | [d1, d2, d3] => { results := [.lit (.bool true)], args := [d1, d2, d3] }
  | _ => none }
def runesAsksRow : OpenClaim := { program := "ytmmdnjooddhhoaa", sum := "a4f6d9f9cff14168fa5bec7bdb764e99221e6449c5a7349fe757a9a8b38cc2c4", func := "gobo/gobolaw5.RunesAsks", spec := "runesAsks", unfollowed := true, recurses := true, apart := false }
def RunesAsksSaid : Prop := runesAsksRow.holds Try.pinned (OpenSpec.ofChange runesAsksSpec)

/-- ITS FALSE NEIGHBOUR: 'it returns false'. Refute it at one input. -/
def runesAsksWrong : ChangeSpec := { name := "runesAsks", fn := fun _ => fun
  | [d1, d2, d3] => { results := [.lit (.bool false)], args := [d1, d2, d3] }
  | _ => none }
def RunesAsksWrongFalsely : Prop := runesAsksRow.holds Try.pinned (OpenSpec.ofChange runesAsksWrong)

/-- 'gobolaw5.RunesCuts': WHATEVER THE INPUT: true; the input reads as it did. -/
def runesCutsSpec : ChangeSpec := { name := "runesCuts", fn := fun _ => fun
  | [d] => { results := [.lit (.bool true)], args := [d] }
  | _ => none }
def runesCutsRow : OpenClaim := { program := "ytmmdnjooddhhoaa", sum := "a4f6d9f9cff14168fa5bec7bdb764e99221e6449c5a7349fe757a9a8b38cc2c4", func := "gobo/gobolaw5.RunesCuts", spec := "runesCuts", unfollowed := true, recurses := true, apart := false }
def RunesCutsSaid : Prop := runesCutsRow.holds Try.pinned (OpenSpec.ofChange runesCutsSpec)

/-- ITS FALSE NEIGHBOUR: 'it returns false'. Refute it at one input. -/
def runesCutsWrong : ChangeSpec := { name := "runesCuts", fn := fun _ => fun
  | [d] => { results := [.lit (.bool false)], args := [d] }
  | _ => none }
def RunesCutsWrongFalsely : Prop := runesCutsRow.holds Try.pinned (OpenSpec.ofChange runesCutsWrong)

/-- 'gobolaw5.RunesHave': WHATEVER THE INPUT: true; the input reads as it did. -/
def runesHaveSpec : ChangeSpec := { name := "runesHave", fn := fun _ => fun
  | [d1, d2, d3, d4] => { results := [.lit (.bool true)], args := [d1, d2, d3, d4] }
  | _ => none }
def runesHaveRow : OpenClaim := { program := "ytmmdnjooddhhoaa", sum := "a4f6d9f9cff14168fa5bec7bdb764e99221e6449c5a7349fe757a9a8b38cc2c4", func := "gobo/gobolaw5.RunesHave", spec := "runesHave", unfollowed := true, recurses := true, apart := false }
def RunesHaveSaid : Prop := runesHaveRow.holds Try.pinned (OpenSpec.ofChange runesHaveSpec)

/-- ITS FALSE NEIGHBOUR: 'it returns false'. Refute it at one input. -/
def runesHaveWrong : ChangeSpec := { name := "runesHave", fn := fun _ => fun
  | [d1, d2, d3, d4] => { results := [.lit (.bool false)], args := [d1, d2, d3, d4] }
  | _ => none }
def RunesHaveWrongFalsely : Prop := runesHaveRow.holds Try.pinned (OpenSpec.ofChange runesHaveWrong)

/-- 'gobolaw5.RunesForms': WHATEVER THE INPUT: true; the input reads as it did. -/
def runesFormsSpec : ChangeSpec := { name := "runesForms", fn := fun _ => fun
  | [d1, d2] => { results := [.lit (.bool true)], args := [d1, d2] }
  | _ => none }
def runesFormsRow : OpenClaim := { program := "ytmmdnjooddhhoaa", sum := "a4f6d9f9cff14168fa5bec7bdb764e99221e6449c5a7349fe757a9a8b38cc2c4", func := "gobo/gobolaw5.RunesForms", spec := "runesForms", unfollowed := true, recurses := true, apart := false }
def RunesFormsSaid : Prop := runesFormsRow.holds Try.pinned (OpenSpec.ofChange runesFormsSpec)

/-- ITS FALSE NEIGHBOUR: 'it returns false'. Refute it at one input. -/
def runesFormsWrong : ChangeSpec := { name := "runesForms", fn := fun _ => fun
  | [d1, d2] => { results := [.lit (.bool false)], args := [d1, d2] }
  | _ => none }
def RunesFormsWrongFalsely : Prop := runesFormsRow.holds Try.pinned (OpenSpec.ofChange runesFormsWrong)

/-- 'gobolaw5.RunesCells': WHATEVER THE INPUT: true; the input reads as it did. -/
def runesCellsSpec : ChangeSpec := { name := "runesCells", fn := fun _ => fun
  | [d1, d2] => { results := [.lit (.bool true)], args := [d1, d2] }
  | _ => none }
def runesCellsRow : OpenClaim := { program := "ytmmdnjooddhhoaa", sum := "a4f6d9f9cff14168fa5bec7bdb764e99221e6449c5a7349fe757a9a8b38cc2c4", func := "gobo/gobolaw5.RunesCells", spec := "runesCells", unfollowed := true, recurses := true, apart := false }
def RunesCellsSaid : Prop := runesCellsRow.holds Try.pinned (OpenSpec.ofChange runesCellsSpec)

/-- ITS FALSE NEIGHBOUR: 'it returns false'. Refute it at one input. -/
def runesCellsWrong : ChangeSpec := { name := "runesCells", fn := fun _ => fun
  | [d1, d2] => { results := [.lit (.bool false)], args := [d1, d2] }
  | _ => none }
def RunesCellsWrongFalsely : Prop := runesCellsRow.holds Try.pinned (OpenSpec.ofChange runesCellsWrong)

/-- 'gobolaw5.RunesOnes': WHATEVER THE INPUT: true; the input reads as it did. -/
def runesOnesSpec : ChangeSpec := { name := "runesOnes", fn := fun _ => fun
  | [d1, d2] => { results := [.lit (.bool true)], args := [d1, d2] }
  | _ => none }
def runesOnesRow : OpenClaim := { program := "ytmmdnjooddhhoaa", sum := "a4f6d9f9cff14168fa5bec7bdb764e99221e6449c5a7349fe757a9a8b38cc2c4", func := "gobo/gobolaw5.RunesOnes", spec := "runesOnes", unfollowed := true, recurses := true, apart := false }
def RunesOnesSaid : Prop := runesOnesRow.holds Try.pinned (OpenSpec.ofChange runesOnesSpec)

/-- ITS FALSE NEIGHBOUR: 'it returns false'. Refute it at one input. -/
def runesOnesWrong : ChangeSpec := { name := "runesOnes", fn := fun _ => fun
  | [d1, d2] => { results := [.lit (.bool false)], args := [d1, d2] }
  | _ => none }
def RunesOnesWrongFalsely : Prop := runesOnesRow.holds Try.pinned (OpenSpec.ofChange runesOnesWrong)

/- THE SECOND FORM. 'bulk': how many values and letters a reading holds, each counted each time it is reached (what is shared counts as often as it is met; a slice's spare places count too). A statement '..UptoSaid' is the law's where the arguments, and the package variables that the reading takes, are together of bulk at most 1048576: NARROWER than '..Said'. Prove '..Said' where nothing that the law and all that it calls make is longer than what came in: it says more and counts as full. Else prove '..UptoSaid'. A law counts once. -/
mutual
def uptoBulk {H : Type} : DataW H → Nat
  | .lit (.string bytes) => bytes.length + 1
  | .lit _ => 1
  | .nil => 1
  | .ptr d => uptoBulk d + 1
  | .slice elems spare => uptoBulkAll elems + uptoBulkAll spare + 1
  | .agg parts => uptoBulkAll parts + 1
  | .iface _ d => uptoBulk d + 1
  | .map entries => uptoBulkEntries entries + 1
  | .held _ => 1
def uptoBulkAll {H : Type} : List (DataW H) → Nat
  | [] => 0
  | d :: r => uptoBulk d + uptoBulkAll r
def uptoBulkEntries {H : Type} : List (Lit × DataW H) → Nat
  | [] => 0
  | x :: r => uptoBulkEntry x + uptoBulkEntries r
def uptoBulkEntry {H : Type} : Lit × DataW H → Nat
  | (.string bytes, d) => bytes.length + uptoBulk d + 1
  | (_, d) => uptoBulk d + 1
 end
def uptoSmall : (H : Type) → List (DataW H) → Bool := fun _ ds => decide (uptoBulkAll ds ≤ 1048576)
def OpenSpec.upto (s : _root_.Go.ChangeSpec) : _root_.Go.OpenSpec := { _root_.Go.OpenSpec.ofChange s with cond := some uptoSmall }

/-- 'gobolaw5.RunesAsks', WHERE WHAT IT READS IS OF BULK AT MOST 1048576: true; the input reads as it did. -/
def runesAsksUptoRow : OpenClaim := { program := "ytmmdnjooddhhoaa", sum := "a4f6d9f9cff14168fa5bec7bdb764e99221e6449c5a7349fe757a9a8b38cc2c4", func := "gobo/gobolaw5.RunesAsks", spec := "runesAsks", unfollowed := true, recurses := true, apart := false, narrowed := true }
def RunesAsksUptoSaid : Prop := runesAsksUptoRow.holds Try.pinned (OpenSpec.upto runesAsksSpec)

/-- 'gobolaw5.RunesCuts', WHERE WHAT IT READS IS OF BULK AT MOST 1048576: true; the input reads as it did. -/
def runesCutsUptoRow : OpenClaim := { program := "ytmmdnjooddhhoaa", sum := "a4f6d9f9cff14168fa5bec7bdb764e99221e6449c5a7349fe757a9a8b38cc2c4", func := "gobo/gobolaw5.RunesCuts", spec := "runesCuts", unfollowed := true, recurses := true, apart := false, narrowed := true }
def RunesCutsUptoSaid : Prop := runesCutsUptoRow.holds Try.pinned (OpenSpec.upto runesCutsSpec)

/-- 'gobolaw5.RunesHave', WHERE WHAT IT READS IS OF BULK AT MOST 1048576: true; the input reads as it did. -/
def runesHaveUptoRow : OpenClaim := { program := "ytmmdnjooddhhoaa", sum := "a4f6d9f9cff14168fa5bec7bdb764e99221e6449c5a7349fe757a9a8b38cc2c4", func := "gobo/gobolaw5.RunesHave", spec := "runesHave", unfollowed := true, recurses := true, apart := false, narrowed := true }
def RunesHaveUptoSaid : Prop := runesHaveUptoRow.holds Try.pinned (OpenSpec.upto runesHaveSpec)

/-- 'gobolaw5.RunesForms', WHERE WHAT IT READS IS OF BULK AT MOST 1048576: true; the input reads as it did. -/
def runesFormsUptoRow : OpenClaim := { program := "ytmmdnjooddhhoaa", sum := "a4f6d9f9cff14168fa5bec7bdb764e99221e6449c5a7349fe757a9a8b38cc2c4", func := "gobo/gobolaw5.RunesForms", spec := "runesForms", unfollowed := true, recurses := true, apart := false, narrowed := true }
def RunesFormsUptoSaid : Prop := runesFormsUptoRow.holds Try.pinned (OpenSpec.upto runesFormsSpec)

/-- 'gobolaw5.RunesCells', WHERE WHAT IT READS IS OF BULK AT MOST 1048576: true; the input reads as it did. -/
def runesCellsUptoRow : OpenClaim := { program := "ytmmdnjooddhhoaa", sum := "a4f6d9f9cff14168fa5bec7bdb764e99221e6449c5a7349fe757a9a8b38cc2c4", func := "gobo/gobolaw5.RunesCells", spec := "runesCells", unfollowed := true, recurses := true, apart := false, narrowed := true }
def RunesCellsUptoSaid : Prop := runesCellsUptoRow.holds Try.pinned (OpenSpec.upto runesCellsSpec)

/-- 'gobolaw5.RunesOnes', WHERE WHAT IT READS IS OF BULK AT MOST 1048576: true; the input reads as it did. -/
def runesOnesUptoRow : OpenClaim := { program := "ytmmdnjooddhhoaa", sum := "a4f6d9f9cff14168fa5bec7bdb764e99221e6449c5a7349fe757a9a8b38cc2c4", func := "gobo/gobolaw5.RunesOnes", spec := "runesOnes", unfollowed := true, recurses := true, apart := false, narrowed := true }
def RunesOnesUptoSaid : Prop := runesOnesUptoRow.holds Try.pinned (OpenSpec.upto runesOnesSpec)

end Rows
end Go.Proofs.Ytmmdnjooddhhoaa
