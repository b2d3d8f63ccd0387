/- RunesOnes answers true. -/
import Derived.Test.YtmmdnjooddhhoaaRpO
import Derived.Test.YtmmdnjooddhhoaaRnU
set_option linter.unusedVariables false
set_option linter.unusedSimpArgs false
namespace Go.Proofs.Ytmmdnjooddhhoaa.Rn
open Go Go.RowKit Go.Proofs.YtmmdnjooddhhoaaW.PrintWords Go.Proofs.YtmmdnjooddhhoaaW.PrintLast Go.Proofs.YtmmdnjooddhhoaaW.PrintMore
theorem isS_no {r : Int} (h : ¬((0 ≤ r ∧ r < 55296) ∨ (57343 < r ∧ r ≤ 1114111))) : isS r = false := by
  rw [Bool.eq_false_iff]
  intro h2
  exact h ((isS_iff r).1 h2)
theorem ones_j1 (x0 x1 : Int) (h : isS x0 = true) (b0 : -2147483648 ≤ x1) (b1 : x1 < 2147483648) : gobolaw5_RunesOnes.j1 10 x0 x1 [⟨x0, x0⟩] (notS [⟨x0, x0⟩]) (isS x1) = some true := by
  have hb := (isS_iff x0).1 h
  have hok : okR [⟨x0, x0⟩] = true := one_ok (by omega) (by omega)
  obtain ⟨n0, n1, n2⟩ := one_not h 9 (by omega)
  have hm : runes_May.f 9 [⟨x0, x0⟩] = some true := by
    rw [may_f _ hok 9 (by simp), one_norm h]
    exact congrArg some ((eqS_iff _ _).2 rfl)
  have hc : runes_Count.f 9 [⟨x0, x0⟩] = some 1 := by
    rw [count_f _ hok 9 (by simp), one_in h]
    simp [sumS]
    omega
  have hh1 : runes_Has.f [⟨x0, x0⟩] x1 = some (x1 == x0) := by
    unfold runes_Has.f
    rw [one_has h]
  have hh2 : runes_Has.f (notS [⟨x0, x0⟩]) x0 = some false := by
    unfold runes_Has.f
    rw [n1]
  have hh3 : runes_Has.f (notS [⟨x0, x0⟩]) x1 = some (isS x1 && decide (x1 ≠ x0)) := by
    unfold runes_Has.f
    rw [n2]
  simp only [gobolaw5_RunesOnes.j1]
  rw [show gobolaw5_told.f = some true from rfl, Option.bind_some, if_pos rfl, hm, Option.bind_some, if_pos rfl, hc, Option.bind_some, if_pos rfl, hh1, Option.bind_some, if_pos (by simp), hh2, Option.bind_some, if_neg (by decide), hh3, Option.bind_some, n0]
  cases hs : isS x1
  · simp
  · by_cases c : x1 = x0
    · simp [c]
    · simp [c]
theorem ones_in (x0 x1 : Int) (b2 : -2147483648 ≤ x0) (b3 : x0 < 2147483648) (b0 : -2147483648 ≤ x1) (b1 : x1 < 2147483648) : gobolaw5_RunesOnes.j0 11 x0 x1 [⟨x0, x0⟩] (isS x0) = some true := by
  have hok : okR [⟨x0, x0⟩] = true := one_ok b2 b3
  have hn : runes_Not.f [⟨x0, x0⟩] = some (notS [⟨x0, x0⟩]) := by unfold runes_Not.f; rw [if_pos hok]
  cases h : isS x0
  · have hnorm : normS [⟨x0, x0⟩] = [] := by unfold normS; rw [one_out b2 b3 h]; rfl
    have hm : runes_May.f 10 [⟨x0, x0⟩] = some false := by
      rw [may_f _ hok 10 (by simp), hnorm]
      rfl
    have hc : runes_Count.f 10 [⟨x0, x0⟩] = some 0 := by
      rw [count_f _ hok 10 (by simp), one_out b2 b3 h]
      rfl
    simp only [gobolaw5_RunesOnes.j0]
    rw [hn, Option.bind_some, if_neg (by decide), show gobolaw5_told.f = some true from rfl, Option.bind_some, if_pos rfl, hm, Option.bind_some, if_neg (by decide), hc, Option.bind_some, if_pos rfl, norm_fk _ hok 10 (by simp), Option.bind_some, hnorm, if_pos (show (([] : List Rg).length : Int) = 0 from rfl), none_not b2 b3 h 10 (by omega), Option.bind_some]
    rfl
  · simp only [gobolaw5_RunesOnes.j0]
    have h1 := ones_j1 x0 x1 h b0 b1
    rw [hn, Option.bind_some, if_pos trivial]
    by_cases c1 : x1 ≥ 0
    · rw [if_pos c1]
      by_cases c2 : x1 ≤ 1114111
      · rw [if_pos c2]
        by_cases c3 : x1 < 55296
        · rw [if_pos c3]
          rw [(isS_iff x1).2 (.inl ⟨c1, c3⟩)] at h1
          exact h1
        · rw [if_neg c3]
          rw [show isS x1 = decide (x1 > 57343) by rw [Bool.eq_iff_iff, isS_iff, decide_eq_true_eq]; omega] at h1
          exact h1
      · rw [if_neg c2]
        rw [isS_no (by omega)] at h1
        exact h1
    · rw [if_neg c1]
      rw [isS_no (by omega)] at h1
      exact h1
theorem ones_f (x0 x1 : Int) (b2 : -2147483648 ≤ x0) (b3 : x0 < 2147483648) (b0 : -2147483648 ≤ x1) (b1 : x1 < 2147483648) : gobolaw5_RunesOnes.f 11 x0 x1 = some true := by
  have h1 := ones_in x0 x1 b2 b3 b0 b1
  unfold gobolaw5_RunesOnes.f
  rw [Option.bind_some]
  by_cases c1 : x0 ≥ 0
  · rw [if_pos c1]
    by_cases c2 : x0 ≤ 1114111
    · rw [if_pos c2]
      by_cases c3 : x0 < 55296
      · rw [if_pos c3]
        rw [(isS_iff x0).2 (.inl ⟨c1, c3⟩)] at h1
        exact h1
      · rw [if_neg c3]
        rw [show isS x0 = decide (x0 > 57343) by rw [Bool.eq_iff_iff, isS_iff, decide_eq_true_eq]; omega] at h1
        exact h1
    · rw [if_neg c2]
      rw [isS_no (by omega)] at h1
      exact h1
  · rw [if_neg c1]
    rw [isS_no (by omega)] at h1
    exact h1
theorem i32_bounds {a : Int} (h : (Lit.int .i32 a).wf = true) : -2147483648 ≤ a ∧ a < 2147483648 := by
  simp only [Lit.wf, IntKind.min, IntKind.max, IntKind.signed, IntKind.bits, Bool.and_eq_true, decide_eq_true_eq, if_true] at h
  omega
theorem ones_pure : gobolaw5_RunesOnes.Pure := fun a0 a1 w0 w1 => ⟨11, ones_f a0 a1 (i32_bounds w0).1 (i32_bounds w0).2 (i32_bounds w1).1 (i32_bounds w1).2⟩
end Go.Proofs.Ytmmdnjooddhhoaa.Rn
