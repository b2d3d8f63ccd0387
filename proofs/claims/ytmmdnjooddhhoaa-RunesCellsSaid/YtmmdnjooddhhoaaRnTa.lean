/- gobolaw5.told: what its calls answer. -/
import Derived.Test.YtmmdnjooddhhoaaRnC
import Derived.Test.YtmmdnjooddhhoaaRnH
import Derived.Test.YtmmdnjooddhhoaaRpD
set_option linter.unusedVariables false
set_option linter.unusedSimpArgs false
namespace Go.Proofs.Ytmmdnjooddhhoaa.Rn
open Go Go.RowKit Go.Proofs.YtmmdnjooddhhoaaW.PrintWords Go.Proofs.YtmmdnjooddhhoaaW.PrintLast Go.Proofs.YtmmdnjooddhhoaaW.PrintMore
def la : List Rg := [⟨97, 99⟩]
def lb : List Rg := [⟨98, 100⟩]
def lx : List Rg := [⟨57344, 57345⟩, ⟨55295, 55295⟩, ⟨5, 4⟩]
def ly : List Rg := [⟨55295, 57345⟩]
theorem told_or : runes_Or.f la lb = some [⟨97, 100⟩] := by kernel_rfl
theorem told_and : runes_And.f la lb = some [⟨98, 99⟩] := by kernel_rfl
theorem told_norm : runes_Norm.f 4 lx = some ly := by kernel_rfl
theorem told_count : runes_Count.f 4 ly = some 3 := by kernel_rfl
theorem told_has1 : runes_Has.f la 98 = some true := by kernel_rfl
theorem told_has2 : runes_Has.f la 100 = some false := by kernel_rfl
theorem told_has3 : runes_Has.f ly 55296 = some false := by kernel_rfl
theorem told_may1 : runes_May.f 4 ly = some true := by kernel_rfl
theorem told_may2 : runes_May.f 4 [⟨5, 4⟩] = some false := by kernel_rfl
theorem told_not : runes_Not.f [] = some [⟨0, 1114111⟩] := by kernel_rfl
theorem told_same : runes_Same.f 4 la la = some true := by kernel_rfl
theorem told_ends : endsS [la, lb] = [97, 100, 98, 101] := by kernel_rfl
theorem told_sort : sortI [97, 100, 98, 101] = [97, 98, 100, 101] := by simp [sortI, List.mergeSort, List.MergeSort.Internal.splitInTwo]
theorem told_cutE : cutE [la, lb] = [97, 98, 100, 101] := by
  unfold cutE
  rw [told_ends, told_sort]
  have h : Go.Lib.compact [(97 : Int), 98, 100, 101] = [97, 98, 100, 101] := by kernel_rfl
  exact h
theorem told_cuts : runes_Cuts.f [la, lb] = some [⟨97, 97⟩, ⟨98, 99⟩, ⟨100, 100⟩] := by
  have h : okC [la, lb] = true := by kernel_rfl
  unfold runes_Cuts.f
  rw [if_pos h]
  have h2 : (outS [97, 98, 100, 101] (spansS [la, lb].flatten)).map rgS = [⟨97, 97⟩, ⟨98, 99⟩, ⟨100, 100⟩] := by kernel_rfl
  unfold cutsS
  rw [told_cutE, h2]
end Go.Proofs.Ytmmdnjooddhhoaa.Rn
