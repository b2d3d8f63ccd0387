/- sets of runes in plain words: Has of a raw list, of a normal one, of Or, of Not. -/
import Derived.Test.YtmmdnjooddhhoaaRnR
set_option linter.unusedVariables false
set_option linter.unusedSimpArgs false
namespace Go.Proofs.Ytmmdnjooddhhoaa.Rn
open Go Go.RowKit Go.Proofs.YtmmdnjooddhhoaaW.PrintWords Go.Proofs.YtmmdnjooddhhoaaW.PrintLast Go.Proofs.YtmmdnjooddhhoaaW.PrintMore
set_option maxHeartbeats 1000000 in
theorem num_le {p o : Int} (b0 : -2147483648 ≤ p) (b1 : p < 2147483648) (ho : isS o = true) : numS p ≤ numS o ↔ p ≤ o := by
  have hs := (isS_iff o).1 ho
  rw [num_is b0 b1, num_is (r := o) (by omega) (by omega)]
  clear ho
  rw [if_neg (show ¬ o < 0 by omega)]
  by_cases c : o < 55296
  · rw [if_pos c]
    repeat' split
    all_goals omega
  · rw [if_neg c, if_neg (show ¬ o ≤ 57343 by omega), if_pos (show o ≤ 1114112 by omega)]
    repeat' split
    all_goals omega
set_option maxHeartbeats 1000000 in
theorem lt_beh {q o : Int} (b0 : -2147483648 ≤ q) (b1 : q < 2147483648) (ho : isS o = true) : numS o < behS q ↔ o ≤ q := by
  have hs := (isS_iff o).1 ho
  have h1 := num_le b0 b1 ho
  rw [beh_is b0 b1]
  cases hq : isS q
  · rw [if_neg (by decide), Int.add_zero]
    have hq2 : ¬((0 ≤ q ∧ q < 55296) ∨ (57343 < q ∧ q ≤ 1114111)) := fun h => by rw [(isS_iff q).2 h] at hq; cases hq
    rw [num_is b0 b1, num_is (r := o) (by omega) (by omega), if_neg (show ¬ o < 0 by omega)]
    clear ho h1 hq
    by_cases c : o < 55296
    · rw [if_pos c]
      repeat' split
      all_goals omega
    · rw [if_neg c, if_neg (show ¬ o ≤ 57343 by omega), if_pos (show o ≤ 1114112 by omega)]
      repeat' split
      all_goals omega
  · rw [if_pos rfl]
    have h2 := num_le (p := o) (by omega) (by omega) hq
    omega
theorem inR_raw {y : Rg} (b0 : -2147483648 ≤ y.f0) (b1 : y.f0 < 2147483648) (b2 : -2147483648 ≤ y.f1) (b3 : y.f1 < 2147483648) {o : Int} (ho : isS o = true) : inR o y = true ↔ inS (keepS y) (numS o) := by
  have h0 := num_le b0 b1 ho
  have h1 := lt_beh b2 b3 ho
  unfold inR keepS inS
  simp only [Bool.and_eq_true, decide_eq_true_eq]
  constructor
  · rintro ⟨h2, h3⟩
    have h4 := h0.2 h2
    have h5 := h1.2 h3
    exact ⟨⟨numS y.f0, behS y.f1⟩, by rw [if_pos ⟨by omega, by omega⟩]; exact List.mem_singleton.2 rfl, h4, h5⟩
  · rintro ⟨x, hx, h2, h3⟩
    by_cases hc : y.f0 ≤ y.f1 ∧ numS y.f0 < behS y.f1
    · rw [if_pos hc] at hx
      obtain rfl := List.mem_singleton.1 hx
      exact ⟨h0.1 h2, h1.1 h3⟩
    · rw [if_neg hc] at hx
      cases hx
theorem has_raw {l : List Rg} (h : okR l = true) {o : Int} (ho : isS o = true) : hasS l o = true ↔ inS (rawS l) (numS o) := by
  unfold hasS
  rw [ho, Bool.true_and, List.any_eq_true]
  constructor
  · rintro ⟨y, hy, h1⟩
    obtain ⟨b0, b1, b2, b3⟩ := okR_at' h hy
    obtain ⟨x, hx, h2⟩ := (inR_raw b0 b1 b2 b3 ho).1 h1
    exact ⟨x, List.mem_flatMap.2 ⟨y, hy, hx⟩, h2⟩
  · rintro ⟨x, hx, h2⟩
    obtain ⟨y, hy, hxy⟩ := List.mem_flatMap.1 hx
    obtain ⟨b0, b1, b2, b3⟩ := okR_at' h hy
    exact ⟨y, hy, (inR_raw b0 b1 b2 b3 ho).2 ⟨x, hxy, h2⟩⟩
theorem in_spans {l : List Rg} (h : okR l = true) (n : Int) : inS (spansS l) n ↔ inS (rawS l) n :=
  (nfS_spec (l := rawS l) (fun x hx => ⟨(raw_ok h x hx).1, (raw_ok h x hx).2.1⟩)).2 n
theorem has_norm {l : List Rg} (h : okR l = true) (o : Int) : hasS (normS l) o = hasS l o := by
  cases ho : isS o
  · unfold hasS
    rw [ho, Bool.false_and, Bool.false_and]
  · rw [Bool.eq_iff_iff, has_raw h ho]
    unfold normS
    rw [has_rg (spans_ok h).1 ho, in_spans h]
theorem has_append (l m : List Rg) (o : Int) : hasS (l ++ m) o = (hasS l o || hasS m o) := by
  unfold hasS
  rw [List.any_append, Bool.and_or_distrib_left]
end Go.Proofs.Ytmmdnjooddhhoaa.Rn
