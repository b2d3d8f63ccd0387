/- RunesOnes' parts: a list of one range of one rune. -/
import Derived.Test.YtmmdnjooddhhoaaRnR
set_option linter.unusedVariables false
set_option linter.unusedSimpArgs false
namespace Go.Proofs.Ytmmdnjooddhhoaa.Rn
open Go Go.RowKit Go.Proofs.YtmmdnjooddhhoaaW.PrintWords Go.Proofs.YtmmdnjooddhhoaaW.PrintLast Go.Proofs.YtmmdnjooddhhoaaW.PrintMore
theorem one_ok {r : Int} (h1 : -2147483648 ≤ r) (h2 : r < 2147483648) : okR [⟨r, r⟩] = true := by
  unfold okR
  simp
  omega
theorem one_in {r : Int} (h : isS r = true) : spansS [⟨r, r⟩] = [⟨numS r, numS r + 1⟩] := by
  have hb := (isS_iff r).1 h
  obtain ⟨_, n0, n1⟩ := num_val h
  have hk : keepS ⟨r, r⟩ = [⟨numS r, numS r + 1⟩] := by
    unfold keepS
    dsimp only
    rw [beh_is (by omega) (by omega), if_pos h, if_pos ⟨Int.le_refl _, by omega⟩]
  have hraw : rawS [⟨r, r⟩] = [⟨numS r, numS r + 1⟩] := by
    unfold rawS
    rw [List.flatMap_cons, hk]
    rfl
  unfold spansS
  rw [hraw]
  refine nfS_of_NFb ⟨?_, ?_, trivial⟩ (fun x hx => ?_)
  · show -1 < numS r
    omega
  · show numS r < numS r + 1
    omega
  · obtain rfl := List.mem_singleton.1 hx
    show 0 ≤ numS r ∧ numS r < numS r + 1
    omega
theorem one_out {r : Int} (h1 : -2147483648 ≤ r) (h2 : r < 2147483648) (h : isS r = false) : spansS [⟨r, r⟩] = [] := by
  have hk : keepS ⟨r, r⟩ = [] := by
    unfold keepS
    dsimp only
    rw [beh_is h1 h2, h, if_neg (by simp)]
  have hraw : rawS [⟨r, r⟩] = [] := by
    unfold rawS
    rw [List.flatMap_cons, hk]
    rfl
  unfold spansS
  rw [hraw]
  rfl
theorem one_norm {r : Int} (h : isS r = true) : normS [⟨r, r⟩] = [⟨r, r⟩] := by
  obtain ⟨e, n0, n1⟩ := num_val h
  unfold normS
  rw [one_in h, List.map_cons, List.map_nil, rg_is n0 (show numS r < numS r + 1 by omega) (show numS r + 1 ≤ 1112064 by omega)]
  dsimp only
  rw [show numS r + 1 - 1 = numS r by omega, e]
theorem one_gap {v : Int} (h0 : 0 ≤ v) (h1 : v < 1112064) : okS (gapS [⟨v, v + 1⟩]) ∧ NFb (-1) (gapS [⟨v, v + 1⟩]) ∧ sumS (gapS [⟨v, v + 1⟩]) = 1112063 ∧ (gapS [⟨v, v + 1⟩]).length ≤ 2 ∧ ∀ n, 0 ≤ n → n < 1112064 → (inS (gapS [⟨v, v + 1⟩]) n ↔ n ≠ v) := by
  have hg : gapS [⟨v, v + 1⟩] = (if 0 < v then [⟨0, v⟩] else []) ++ (if v + 1 < 1112064 then [⟨v + 1, 1112064⟩] else []) := by
    unfold gapS gapsG
    simp only [List.foldl_cons, List.foldl_nil, stepG, upS]
    by_cases c : 0 < v <;> by_cases d : v + 1 < 1112064 <;> simp [c, d]
  rw [hg]
  by_cases c : 0 < v
  · by_cases d : v + 1 < 1112064
    · rw [if_pos c, if_pos d]
      refine ⟨fun x hx => ?_, ⟨by show (-1 : Int) < 0; omega, c, by show v < v + 1; omega, d, trivial⟩, by simp [sumS]; omega, by simp, fun n n0 n1 => ?_⟩
      · simp at hx
        rcases hx with rfl | rfl
        · exact ⟨by show (0 : Int) ≤ 0; omega, c, by show v ≤ _; omega⟩
        · exact ⟨by show 0 ≤ v + 1; omega, d, by show (1112064 : Int) ≤ _; omega⟩
      · rw [List.singleton_append, inS_cons, inS_cons]
        have := inS_nil n
        show ((0 ≤ n ∧ n < v) ∨ (v + 1 ≤ n ∧ n < 1112064) ∨ inS [] n) ↔ _
        constructor
        · rintro (h | h | h)
          · omega
          · omega
          · exact absurd h this
        · intro h
          omega
    · rw [if_pos c, if_neg d, List.append_nil]
      refine ⟨fun x hx => ?_, ⟨by show (-1 : Int) < 0; omega, c, trivial⟩, by simp [sumS]; omega, by simp, fun n n0 n1 => ?_⟩
      · simp at hx
        subst hx
        exact ⟨by show (0 : Int) ≤ 0; omega, c, by show v ≤ _; omega⟩
      · rw [inS_cons]
        have := inS_nil n
        show ((0 ≤ n ∧ n < v) ∨ inS [] n) ↔ _
        constructor
        · rintro (h | h)
          · omega
          · exact absurd h this
        · intro h
          omega
  · have d : v + 1 < 1112064 := by omega
    rw [if_neg c, if_pos d, List.nil_append]
    refine ⟨fun x hx => ?_, ⟨by show (-1 : Int) < v + 1; omega, d, trivial⟩, by simp [sumS]; omega, by simp, fun n n0 n1 => ?_⟩
    · simp at hx
      subst hx
      exact ⟨by show 0 ≤ v + 1; omega, d, by show (1112064 : Int) ≤ _; omega⟩
    · rw [inS_cons]
      have := inS_nil n
      show ((v + 1 ≤ n ∧ n < 1112064) ∨ inS [] n) ↔ _
      constructor
      · rintro (h | h)
        · omega
        · exact absurd h this
      · intro h
        omega
/-- a scalar value: the set without it -/
theorem one_not {r : Int} (h : isS r = true) (k : Nat) (hk : 2 < k) : runes_Count.f k (notS [⟨r, r⟩]) = some 1112063 ∧ hasS (notS [⟨r, r⟩]) r = false ∧ ∀ o, hasS (notS [⟨r, r⟩]) o = (isS o && decide (o ≠ r)) := by
  obtain ⟨e, n0, n1⟩ := num_val h
  obtain ⟨g0, g1, g2, g3, g4⟩ := one_gap n0 n1
  unfold notS
  rw [one_in h]
  have hall : ∀ o, hasS ((gapS [⟨numS r, numS r + 1⟩]).map rgS) o = (isS o && decide (o ≠ r)) := fun o => by
    cases ho : isS o
    · unfold hasS
      rw [ho]
      rfl
    · rw [Bool.true_and, Bool.eq_iff_iff, has_rg g0 ho, decide_eq_true_eq]
      obtain ⟨e2, m0, m1⟩ := num_val ho
      rw [g4 _ m0 m1]
      constructor
      · intro hne he
        exact hne (by rw [he])
      · intro hne he
        exact hne (by rw [← e2, he, e])
  refine ⟨?_, by rw [hall]; simp, hall⟩
  rw [count_f _ (okR_rg g0 (by omega)) k (by rw [List.length_map]; omega), spans_rg g0 g1, g2]
theorem none_not {r : Int} (h1 : -2147483648 ≤ r) (h2 : r < 2147483648) (h : isS r = false) (k : Nat) (hk : 2 < k) : runes_Count.f k (notS [⟨r, r⟩]) = some 1112064 := by
  unfold notS
  rw [one_out h1 h2 h]
  exact at_rounds (fun k => runes_Count.mono _ k) (show 3 ≤ k by omega) (show runes_Count.f 3 ((gapS []).map rgS) = some 1112064 by kernel_rfl)
theorem one_has {r : Int} (h : isS r = true) (o : Int) : hasS [⟨r, r⟩] o = (o == r) := by
  rw [Bool.eq_iff_iff, beq_iff_eq]
  have e : hasS [⟨r, r⟩] o = (isS o && (decide (r ≤ o) && decide (o ≤ r))) := by
    unfold hasS
    rw [List.any_cons, List.any_nil, Bool.or_false]
    rfl
  rw [e, Bool.and_eq_true, Bool.and_eq_true, decide_eq_true_eq, decide_eq_true_eq]
  constructor
  · rintro ⟨_, h1, h2⟩
    omega
  · rintro rfl
    exact ⟨h, Int.le_refl _, Int.le_refl _⟩
end Go.Proofs.Ytmmdnjooddhhoaa.Rn
