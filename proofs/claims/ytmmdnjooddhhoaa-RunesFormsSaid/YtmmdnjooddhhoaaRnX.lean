/- the gaps of a normal form: Not in plain words. -/
import Derived.Test.YtmmdnjooddhhoaaRnW
set_option linter.unusedVariables false
set_option linter.unusedSimpArgs false
namespace Go.Proofs.Ytmmdnjooddhhoaa.Rn
open Go Go.RowKit Go.Proofs.YtmmdnjooddhhoaaW.PrintWords Go.Proofs.YtmmdnjooddhhoaaW.PrintLast Go.Proofs.YtmmdnjooddhhoaaW.PrintMore
def gapR : Int → List Sp → List Sp
  | a, [] => if a < 1112064 then [⟨a, 1112064⟩] else []
  | a, x :: L => (if a < x.f0 then [⟨a, x.f0⟩] else []) ++ gapR x.f1 L
theorem gap_rec : ∀ (L : List Sp) (a : Int) (O : List Sp), upS (L.foldl stepG (a, O)).1 1112064 (L.foldl stepG (a, O)).2 = O ++ gapR a L
  | [], a, O => by
    show upS a 1112064 O = _
    unfold upS gapR
    by_cases c : a < 1112064
    · rw [if_pos c, if_pos c]
    · rw [if_neg c, if_neg c, List.append_nil]
  | x :: L, a, O => by
    show upS (L.foldl stepG (x.f1, upS a x.f0 O)).1 1112064 (L.foldl stepG (x.f1, upS a x.f0 O)).2 = _
    rw [gap_rec L x.f1 (upS a x.f0 O)]
    unfold upS
    rw [gapR]
    by_cases c : a < x.f0
    · rw [if_pos c, if_pos c, List.append_assoc]
    · rw [if_neg c, if_neg c, List.nil_append]
theorem gap_is (L : List Sp) : gapS L = gapR 0 L := by
  have h := gap_rec L 0 []
  rw [List.nil_append] at h
  exact h
theorem gapR_nf : ∀ (L : List Sp) (a lo : Int), lo < a → NFb (a - 1) L → okS L → NFb lo (gapR a L)
  | [], a, lo, hl, _, _ => by
    unfold gapR
    by_cases c : a < 1112064
    · rw [if_pos c]
      exact ⟨hl, c, trivial⟩
    · rw [if_neg c]
      trivial
  | x :: L, a, lo, hl, hn, ho => by
    obtain ⟨h1, h2, h3⟩ := hn
    have h1' : a - 1 < x.f0 := h1
    have h2' : x.f0 < x.f1 := h2
    have hL : NFb (x.f1 - 1) L := NFb_mono h3 (show x.f1 - 1 ≤ x.f1 by omega)
    have hoL : okS L := fun y hy => ho y (List.mem_cons_of_mem _ hy)
    unfold gapR
    by_cases c : a < x.f0
    · rw [if_pos c]
      exact ⟨hl, c, gapR_nf L x.f1 x.f0 h2' hL hoL⟩
    · rw [if_neg c, List.nil_append]
      exact gapR_nf L x.f1 lo (by omega) hL hoL
theorem gapR_ok : ∀ (L : List Sp) (a : Int), 0 ≤ a → NFb (a - 1) L → okS L → okS (gapR a L)
  | [], a, h0, _, _ => by
    unfold gapR
    by_cases c : a < 1112064
    · rw [if_pos c]
      intro x hx
      obtain rfl := List.mem_singleton.1 hx
      exact ⟨h0, c, Int.le_refl _⟩
    · rw [if_neg c]
      intro x hx
      cases hx
  | x :: L, a, h0, hn, ho => by
    obtain ⟨h1, h2, h3⟩ := hn
    obtain ⟨o0, o1, o2⟩ := ho x (List.mem_cons_self ..)
    have hL : NFb (x.f1 - 1) L := NFb_mono h3 (show x.f1 - 1 ≤ x.f1 by omega)
    have hoL : okS L := fun y hy => ho y (List.mem_cons_of_mem _ hy)
    have ih := gapR_ok L x.f1 (by omega) hL hoL
    unfold gapR
    by_cases c : a < x.f0
    · rw [if_pos c]
      intro y hy
      rcases List.mem_append.1 hy with hy | hy
      · obtain rfl := List.mem_singleton.1 hy
        exact ⟨h0, c, by show x.f0 ≤ _; omega⟩
      · exact ih y hy
    · rw [if_neg c, List.nil_append]
      exact ih
theorem gapR_in (n : Int) : ∀ (L : List Sp) (a : Int), NFb (a - 1) L → okS L → (inS (gapR a L) n ↔ a ≤ n ∧ n < 1112064 ∧ ¬ inS L n)
  | [], a, _, _ => by
    unfold gapR
    by_cases c : a < 1112064
    · rw [if_pos c, inS_cons]
      have := inS_nil n
      show ((a ≤ n ∧ n < 1112064) ∨ inS [] n) ↔ _
      constructor
      · rintro (h | h)
        · exact ⟨h.1, h.2, this⟩
        · exact absurd h this
      · rintro ⟨h1, h2, _⟩
        exact .inl ⟨h1, h2⟩
    · rw [if_neg c]
      constructor
      · intro h
        exact absurd h (inS_nil n)
      · rintro ⟨h1, h2, _⟩
        omega
  | x :: L, a, hn, ho => by
    obtain ⟨h1, h2, h3⟩ := hn
    obtain ⟨o0, o1, o2⟩ := ho x (List.mem_cons_self ..)
    have h1' : a - 1 < x.f0 := h1
    have hL : NFb (x.f1 - 1) L := NFb_mono h3 (show x.f1 - 1 ≤ x.f1 by omega)
    have hoL : okS L := fun y hy => ho y (List.mem_cons_of_mem _ hy)
    have ih := gapR_in n L x.f1 hL hoL
    have hlow : inS L n → x.f1 < n := fun ⟨y, hy, hy1, _⟩ => by
      have := (NFb_mem h3 y hy).1
      have h5 : x.f1 < y.f0 := this
      have h6 : y.f0 ≤ n := hy1
      omega
    rw [inS_cons]
    have hmid : inS (gapR a (x :: L)) n ↔ (a ≤ n ∧ n < x.f0) ∨ inS (gapR x.f1 L) n := by
      show inS ((if a < x.f0 then [⟨a, x.f0⟩] else []) ++ gapR x.f1 L) n ↔ _
      by_cases c : a < x.f0
      · rw [if_pos c, List.singleton_append, inS_cons]
      · rw [if_neg c, List.nil_append]
        constructor
        · exact .inr
        · rintro (h | h)
          · omega
          · exact h
    rw [hmid, ih]
    show _ ↔ a ≤ n ∧ n < 1112064 ∧ ¬ ((x.f0 ≤ n ∧ n < x.f1) ∨ inS L n)
    by_cases hi : inS L n
    · have := hlow hi
      constructor
      · rintro (h | h)
        · omega
        · exact absurd hi h.2.2
      · rintro ⟨_, _, h⟩
        exact absurd (.inr hi) h
    · constructor
      · rintro (h | h)
        · exact ⟨h.1, by omega, fun h2 => h2.elim (fun h3 => by omega) hi⟩
        · exact ⟨by omega, h.2.1, fun h2 => h2.elim (fun h3 => by omega) hi⟩
      · rintro ⟨h4, h5, h6⟩
        by_cases c : n < x.f0
        · exact .inl ⟨h4, c⟩
        · refine .inr ⟨?_, h5, hi⟩
          by_cases d : n < x.f1
          · exact absurd (.inl ⟨by omega, d⟩) h6
          · omega
theorem has_not {l : List Rg} (h : okR l = true) (o : Int) : hasS (notS l) o = (isS o && !hasS l o) := by
  obtain ⟨h1, h2⟩ := spans_ok h
  have hn : NFb ((0 : Int) - 1) (spansS l) := h2
  have hok := gapR_ok (spansS l) 0 (Int.le_refl _) hn h1
  cases ho : isS o
  · unfold hasS
    rw [ho]
    rfl
  · obtain ⟨_, n0, n1⟩ := num_val ho
    unfold notS
    rw [gap_is, Bool.true_and, Bool.eq_iff_iff, has_rg hok ho, gapR_in (numS o) _ 0 hn h1, in_spans h, ← has_raw h ho]
    cases hasS l o <;> simp <;> omega
end Go.Proofs.Ytmmdnjooddhhoaa.Rn
