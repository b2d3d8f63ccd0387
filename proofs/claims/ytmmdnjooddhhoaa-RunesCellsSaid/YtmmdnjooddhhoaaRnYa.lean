/- sets of runes: what Not, Or, And answer, lists that may be. -/
import Derived.Test.YtmmdnjooddhhoaaRpD
import Derived.Test.YtmmdnjooddhhoaaRnW
set_option linter.unusedVariables false
set_option linter.unusedSimpArgs false
namespace Go.Proofs.Ytmmdnjooddhhoaa.Rn
open Go Go.RowKit Go.Proofs.YtmmdnjooddhhoaaW.PrintWords Go.Proofs.YtmmdnjooddhhoaaW.PrintLast Go.Proofs.YtmmdnjooddhhoaaW.PrintMore
theorem gapR_len : ∀ (L : List Sp) (a : Int), (gapR a L).length ≤ L.length + 1
  | [], a => by unfold gapR; split <;> simp
  | x :: L, a => by
    have ih := gapR_len L x.f1
    show ((if a < x.f0 then [(⟨a, x.f0⟩ : Sp)] else []) ++ gapR x.f1 L).length ≤ _
    rw [List.length_append, List.length_cons]
    split <;> simp <;> omega
theorem not_len (l : List Rg) : (notS l).length ≤ l.length + 1 := by
  have h1 := gapR_len (spansS l) 0
  have h2 := spansS_len l
  unfold notS
  rw [List.length_map, gap_is]
  omega
theorem okR_not {l : List Rg} (h : okR l = true) (hl : l.length ≤ 100000) : okR (notS l) = true := by
  obtain ⟨h1, h2⟩ := spans_ok h
  have h3 := gapR_len (spansS l) 0
  have h4 := spansS_len l
  unfold notS
  rw [gap_is]
  exact okR_rg (gapR_ok (spansS l) 0 (Int.le_refl _) h2 h1) (by omega)
theorem okR_norm {l : List Rg} (h : okR l = true) : okR (normS l) = true := by
  have h4 := spansS_len l
  have h5 := okR_len h
  exact okR_rg (spans_ok h).1 (by omega)
theorem okR_append {l m : List Rg} (h : okR l = true) (k : okR m = true) (hl : l.length + m.length ≤ 1000000) : okR (l ++ m) = true := by
  unfold okR at *
  simp only [Bool.and_eq_true, decide_eq_true_eq, List.all_append, List.length_append] at *
  exact ⟨hl, h.2, k.2⟩
theorem not_f {l : List Rg} (h : okR l = true) : runes_Not.f l = some (notS l) := by unfold runes_Not.f; rw [if_pos h]
theorem or_f {l m : List Rg} (h : okR (l ++ m) = true) : runes_Or.f l m = some (normS (l ++ m)) := by unfold runes_Or.f; rw [if_pos h]
def andS (l m : List Rg) : List Rg := notS (normS (notS l ++ notS m))
theorem and_f {l m : List Rg} (h : okR l = true) (k : okR m = true) (hl : l.length ≤ 10000) (hm : m.length ≤ 10000) : runes_And.f l m = some (andS l m) ∧ ∀ o, hasS (andS l m) o = (hasS l o && hasS m o) := by
  have h1 := okR_not h (by omega)
  have h2 := okR_not k (by omega)
  have n1 := not_len l
  have n2 := not_len m
  have h3 := okR_append h1 h2 (by omega)
  refine ⟨?_, fun o => ?_⟩
  · unfold runes_And.f
    rw [not_f h, Option.bind_some, not_f k, Option.bind_some, or_f h3, Option.bind_some, not_f (okR_norm h3), Option.bind_some]
    rfl
  · unfold andS
    rw [has_not (okR_norm h3), has_norm h3, has_append, has_not h, has_not k]
    cases hs : isS o
    · unfold hasS
      rw [hs]
      rfl
    · cases hasS l o <;> cases hasS m o <;> rfl
theorem isS_off {r : Int} (h : ¬((0 ≤ r ∧ r < 55296) ∨ (57343 < r ∧ r ≤ 1114111))) : isS r = false := by
  rw [Bool.eq_false_iff]
  intro h2
  exact h ((isS_iff r).1 h2)
/-- ranges of runes -/
def rgOk (l : List Rg) : Bool := l.all (fun x => decide (-2147483648 ≤ x.f0) && decide (x.f0 < 2147483648) && decide (-2147483648 ≤ x.f1) && decide (x.f1 < 2147483648))
theorem okR_of {l : List Rg} (h : rgOk l = true) (hl : l.length ≤ 1000000) : okR l = true := by
  unfold okR
  rw [decide_eq_true hl, Bool.true_and]
  exact h
theorem norm_len (l : List Rg) : (normS l).length ≤ l.length := by
  unfold normS
  rw [List.length_map]
  exact spansS_len l
theorem has_isS {l : List Rg} {o : Int} (h : isS o = false) : hasS l o = false := by
  unfold hasS
  rw [h]
  rfl
theorem may_nf {x : List Rg} (h : NFl x) (hx : x.length < 200) (n : Nat) (hn : 200 < n) : runes_May.f n x = some true := by
  rw [may_f x (NFl_ok h (by omega)) n (by omega), norm_NFl h, (eqS_iff _ _).2 rfl]
theorem norm_nf {x : List Rg} (h : NFl x) (hx : x.length < 200) (n : Nat) (hn : 200 < n) : runes_Norm.f n x = some x := by
  rw [norm_fk x (NFl_ok h (by omega)) n (by omega), norm_NFl h]
theorem same_rfl {x : List Rg} (hx : x.length < 200) (n : Nat) (hn : 200 < n) : runes_Same.f n x x = some true := by
  rw [same_f x x (by omega) n (by omega), (eqS_iff _ _).2 rfl]
theorem count_cnt {x : List Rg} (h : okR x = true) (hx : x.length < 200) (n : Nat) (hn : 200 < n) : runes_Count.f n x = some (cnt (fun i => hasS x (valS i)) 1112064) := by
  rw [count_f x h n (by omega), count_has h]
end Go.Proofs.Ytmmdnjooddhhoaa.Rn
