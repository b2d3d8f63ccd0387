/- sets of runes: lists in the normal form, and how many runes they have. -/
import Derived.Test.YtmmdnjooddhhoaaRnX
set_option linter.unusedVariables false
set_option linter.unusedSimpArgs false
namespace Go.Proofs.Ytmmdnjooddhhoaa.Rn
open Go Go.RowKit Go.Proofs.YtmmdnjooddhhoaaW.PrintWords Go.Proofs.YtmmdnjooddhhoaaW.PrintLast Go.Proofs.YtmmdnjooddhhoaaW.PrintMore
/-- a list that is its own normal form -/
def NFl (l : List Rg) : Prop := ∃ L, okS L ∧ NFb (-1) L ∧ l = L.map rgS
theorem NFl_ext {l m : List Rg} (h : NFl l) (k : NFl m) (e : ∀ o, hasS l o = hasS m o) : l = m := by
  obtain ⟨L, h1, h2, rfl⟩ := h
  obtain ⟨M, k1, k2, rfl⟩ := k
  have hLM : L = M := by
    refine NFb_unique L M (-1) h2 k2 (fun n => ?_)
    by_cases hn : 0 ≤ n ∧ n < 1112064
    · obtain ⟨v1, v2, _, _⟩ := val_num hn.1 hn.2
      have e1 := e (valS n)
      have a1 := has_rg h1 v2
      have a2 := has_rg k1 v2
      rw [v1] at a1 a2
      rw [← a1, ← a2, e1]
    · constructor
      · rintro ⟨x, hx, hx1, hx2⟩
        have h3 := h1 x hx
        have hx1' : x.f0 ≤ n := hx1
        have hx2' : n < x.f1 := hx2
        exact absurd ⟨by omega, by omega⟩ hn
      · rintro ⟨x, hx, hx1, hx2⟩
        have h3 := k1 x hx
        have hx1' : x.f0 ≤ n := hx1
        have hx2' : n < x.f1 := hx2
        exact absurd ⟨by omega, by omega⟩ hn
  rw [hLM]
theorem NFl_norm {l : List Rg} (h : okR l = true) : NFl (normS l) := ⟨spansS l, (spans_ok h).1, (spans_ok h).2, rfl⟩
theorem NFl_not {l : List Rg} (h : okR l = true) : NFl (notS l) := by
  obtain ⟨h1, h2⟩ := spans_ok h
  refine ⟨gapR 0 (spansS l), gapR_ok (spansS l) 0 (Int.le_refl _) h2 h1, gapR_nf (spansS l) 0 (-1) (by decide) h2 h1, ?_⟩
  unfold notS
  rw [gap_is]
theorem norm_NFl {l : List Rg} (h : NFl l) : normS l = l := by
  obtain ⟨L, h1, h2, rfl⟩ := h
  unfold normS
  rw [spans_rg h1 h2]
theorem NFl_ok {l : List Rg} (h : NFl l) (hl : l.length ≤ 1000000) : okR l = true := by
  obtain ⟨L, h1, h2, rfl⟩ := h
  rw [List.length_map] at hl
  exact okR_rg h1 hl
/-- how many of the first numbers are so -/
def cnt (p : Int → Bool) : Nat → Int
  | 0 => 0
  | n + 1 => cnt p n + (if p n = true then 1 else 0)
theorem cnt_succ (p : Int → Bool) (N : Nat) : cnt p (N + 1) = cnt p N + (if p (N : Int) = true then 1 else 0) := rfl
theorem cnt_congr {p q : Int → Bool} : ∀ N : Nat, (∀ n : Int, 0 ≤ n → n < N → p n = q n) → cnt p N = cnt q N
  | 0, _ => rfl
  | N + 1, h => by
    show cnt p N + _ = cnt q N + _
    rw [cnt_congr N (fun n h0 h1 => h n h0 (by omega)), h N (by omega) (by omega)]
theorem cnt_or_and (p q : Int → Bool) : ∀ N : Nat, cnt (fun n => p n || q n) N + cnt (fun n => p n && q n) N = cnt p N + cnt q N
  | 0 => rfl
  | N + 1 => by
    have ih := cnt_or_and p q N
    rw [cnt_succ, cnt_succ, cnt_succ, cnt_succ]
    generalize cnt (fun n => p n || q n) N = a at *
    generalize cnt (fun n => p n && q n) N = b at *
    generalize cnt p N = c at *
    generalize cnt q N = d at *
    cases p N <;> cases q N <;> simp only [Bool.or_true, Bool.or_false, Bool.and_true, Bool.and_false, Bool.false_eq_true, if_true, if_false] <;> omega
theorem cnt_not (p : Int → Bool) : ∀ N : Nat, cnt p N + cnt (fun n => !p n) N = N
  | 0 => rfl
  | N + 1 => by
    have ih := cnt_not p N
    rw [cnt_succ, cnt_succ]
    generalize cnt (fun n => !p n) N = a at *
    generalize cnt p N = c at *
    cases p N <;> simp only [Bool.not_true, Bool.not_false, Bool.false_eq_true, if_true, if_false] <;> omega
theorem cnt_none {p : Int → Bool} : ∀ N : Nat, (∀ n : Int, 0 ≤ n → n < N → p n = false) → cnt p N = 0
  | 0, _ => rfl
  | N + 1, h => by
    show cnt p N + _ = 0
    rw [cnt_none N (fun n h0 h1 => h n h0 (by omega)), h N (by omega) (by omega)]
    rfl
theorem cnt_nonneg (p : Int → Bool) : ∀ N : Nat, 0 ≤ cnt p N ∧ cnt p N ≤ N
  | 0 => ⟨Int.le_refl _, Int.le_refl _⟩
  | N + 1 => by
    have ih := cnt_nonneg p N
    show 0 ≤ cnt p N + _ ∧ cnt p N + _ ≤ _
    split <;> omega
theorem cnt_iv (a : Int) (h0 : 0 ≤ a) : ∀ (N : Nat) (b : Int), a ≤ b → b ≤ N → cnt (fun n => decide (a ≤ n) && decide (n < b)) N = b - a
  | 0, b, h1, h2 => by
    show (0 : Int) = _
    omega
  | N + 1, b, h1, h2 => by
    by_cases c : b ≤ N
    · have ih := cnt_iv a h0 N b h1 c
      rw [cnt_succ, ih]
      rw [decide_eq_false (show ¬ (N : Int) < b by omega), Bool.and_false]
      simp
    · by_cases d : a ≤ N
      · have ih := cnt_iv a h0 N N d (Int.le_refl _)
        rw [cnt_succ, cnt_congr N (q := fun n => decide (a ≤ n) && decide (n < (N : Int))) (fun n k0 k1 => by rw [decide_eq_true k1, decide_eq_true (show n < b by omega)]), ih]
        rw [decide_eq_true d, decide_eq_true (show (N : Int) < b by omega)]
        simp
        omega
      · rw [cnt_none (N + 1) (fun n k0 k1 => by rw [decide_eq_false (show ¬ a ≤ n by omega)]; rfl)]
        omega
def inB (L : List Sp) (n : Int) : Bool := L.any (fun x => decide (x.f0 ≤ n) && decide (n < x.f1))
theorem inB_iff (L : List Sp) (n : Int) : inB L n = true ↔ inS L n := by
  unfold inB inS
  rw [List.any_eq_true]
  constructor
  · rintro ⟨x, hx, h⟩
    simp only [Bool.and_eq_true, decide_eq_true_eq] at h
    exact ⟨x, hx, h.1, h.2⟩
  · rintro ⟨x, hx, h1, h2⟩
    refine ⟨x, hx, ?_⟩
    simp only [Bool.and_eq_true, decide_eq_true_eq]
    exact ⟨h1, h2⟩
theorem sum_cnt : ∀ (L : List Sp) (lo : Int), NFb lo L → okS L → sumS L = cnt (inB L) 1112064
  | [], _, _, _ => (cnt_none 1112064 (fun _ _ _ => rfl)).symm
  | x :: L, lo, h, ho => by
    obtain ⟨h1, h2, h3⟩ := h
    obtain ⟨o0, o1, o2⟩ := ho x (List.mem_cons_self ..)
    have ih := sum_cnt L x.f1 h3 (fun y hy => ho y (List.mem_cons_of_mem _ hy))
    have e1 := cnt_iv x.f0 o0 1112064 x.f1 (by omega) o2
    have e2 := cnt_or_and (fun n => decide (x.f0 ≤ n) && decide (n < x.f1)) (inB L) 1112064
    have e3 := cnt_none (p := fun n => (decide (x.f0 ≤ n) && decide (n < x.f1)) && inB L n) 1112064 (fun n _ _ => by
      rw [Bool.eq_false_iff]
      intro hc
      simp only [Bool.and_eq_true, decide_eq_true_eq] at hc
      have h4 := NFb_lt h3 n ((inB_iff L n).1 hc.2)
      have h5 : x.f1 < n := h4
      omega)
    rw [e3, e1, ← ih] at e2
    show x.f1 - x.f0 + sumS L = _
    rw [← e2, Int.add_zero]
    exact cnt_congr 1112064 (fun n _ _ => rfl)
theorem count_has {l : List Rg} (h : okR l = true) : sumS (spansS l) = cnt (fun n => hasS l (valS n)) 1112064 := by
  rw [sum_cnt _ (-1) (spans_ok h).2 (spans_ok h).1]
  refine cnt_congr 1112064 (fun n h0 h1 => ?_)
  obtain ⟨v1, v2, _, _⟩ := val_num h0 (by omega)
  have e := has_raw h v2
  rw [v1, ← in_spans h, ← inB_iff] at e
  rw [Bool.eq_iff_iff]
  exact e.symm
theorem sum_bd {l : List Rg} (h : okR l = true) : 0 ≤ sumS (spansS l) ∧ sumS (spansS l) ≤ 1112064 := by
  rw [count_has h]
  exact cnt_nonneg _ _
end Go.Proofs.Ytmmdnjooddhhoaa.Rn
