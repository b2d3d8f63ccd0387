/- sets of runes in plain words: Has of a raw list, of a normal one, of Or, of Not; lists in the normal form, and how many runes they have. -/
import Derived.Test.YtmmdnjooddhhoaaRnR
set_option linter.unusedVariables false
set_option linter.unusedSimpArgs false
namespace Go.Proofs.Ytmmdnjooddhhoaa.Rn
open Go Go.RowKit Go.Proofs.YtmmdnjooddhhoaaW.PrintWords Go.Proofs.YtmmdnjooddhhoaaW.PrintLast Go.Proofs.YtmmdnjooddhhoaaW.PrintMore
set_option maxHeartbeats 1000000 in
theorem num_le {p o : Int} (b0 : -2147483648 ≤ p) (b1 : p < 2147483648) (ho : isS o = true) : numS p ≤ numS o ↔ p ≤ o := by
  have hs := (isS_iff o).1 ho
  rw [num_is b0 b1, num_is (r := o) (by omega) (by omega)]
  clear ho
  rw [if_neg (show ¬ o < 0 by omega)]
  by_cases c : o < 55296
  · rw [if_pos c]
    repeat' split
    all_goals omega
  · rw [if_neg c, if_neg (show ¬ o ≤ 57343 by omega), if_pos (show o ≤ 1114112 by omega)]
    repeat' split
    all_goals omega
set_option maxHeartbeats 1000000 in
theorem lt_beh {q o : Int} (b0 : -2147483648 ≤ q) (b1 : q < 2147483648) (ho : isS o = true) : numS o < behS q ↔ o ≤ q := by
  have hs := (isS_iff o).1 ho
  have h1 := num_le b0 b1 ho
  rw [beh_is b0 b1]
  cases hq : isS q
  · rw [if_neg (by decide), Int.add_zero]
    have hq2 : ¬((0 ≤ q ∧ q < 55296) ∨ (57343 < q ∧ q ≤ 1114111)) := fun h => by rw [(isS_iff q).2 h] at hq; cases hq
    rw [num_is b0 b1, num_is (r := o) (by omega) (by omega), if_neg (show ¬ o < 0 by omega)]
    clear ho h1 hq
    by_cases c : o < 55296
    · rw [if_pos c]
      repeat' split
      all_goals omega
    · rw [if_neg c, if_neg (show ¬ o ≤ 57343 by omega), if_pos (show o ≤ 1114112 by omega)]
      repeat' split
      all_goals omega
  · rw [if_pos rfl]
    have h2 := num_le (p := o) (by omega) (by omega) hq
    omega
theorem inR_raw {y : Rg} (b0 : -2147483648 ≤ y.f0) (b1 : y.f0 < 2147483648) (b2 : -2147483648 ≤ y.f1) (b3 : y.f1 < 2147483648) {o : Int} (ho : isS o = true) : inR o y = true ↔ inS (keepS y) (numS o) := by
  have h0 := num_le b0 b1 ho
  have h1 := lt_beh b2 b3 ho
  unfold inR keepS inS
  simp only [Bool.and_eq_true, decide_eq_true_eq]
  constructor
  · rintro ⟨h2, h3⟩
    have h4 := h0.2 h2
    have h5 := h1.2 h3
    exact ⟨⟨numS y.f0, behS y.f1⟩, by rw [if_pos ⟨by omega, by omega⟩]; exact List.mem_singleton.2 rfl, h4, h5⟩
  · rintro ⟨x, hx, h2, h3⟩
    by_cases hc : y.f0 ≤ y.f1 ∧ numS y.f0 < behS y.f1
    · rw [if_pos hc] at hx
      obtain rfl := List.mem_singleton.1 hx
      exact ⟨h0.1 h2, h1.1 h3⟩
    · rw [if_neg hc] at hx
      cases hx
theorem has_raw {l : List Rg} (h : okR l = true) {o : Int} (ho : isS o = true) : hasS l o = true ↔ inS (rawS l) (numS o) := by
  unfold hasS
  rw [ho, Bool.true_and, List.any_eq_true]
  constructor
  · rintro ⟨y, hy, h1⟩
    obtain ⟨b0, b1, b2, b3⟩ := okR_at' h hy
    obtain ⟨x, hx, h2⟩ := (inR_raw b0 b1 b2 b3 ho).1 h1
    exact ⟨x, List.mem_flatMap.2 ⟨y, hy, hx⟩, h2⟩
  · rintro ⟨x, hx, h2⟩
    obtain ⟨y, hy, hxy⟩ := List.mem_flatMap.1 hx
    obtain ⟨b0, b1, b2, b3⟩ := okR_at' h hy
    exact ⟨y, hy, (inR_raw b0 b1 b2 b3 ho).2 ⟨x, hxy, h2⟩⟩
theorem in_spans {l : List Rg} (h : okR l = true) (n : Int) : inS (spansS l) n ↔ inS (rawS l) n :=
  (nfS_spec (l := rawS l) (fun x hx => ⟨(raw_ok h x hx).1, (raw_ok h x hx).2.1⟩)).2 n
theorem has_norm {l : List Rg} (h : okR l = true) (o : Int) : hasS (normS l) o = hasS l o := by
  cases ho : isS o
  · unfold hasS
    rw [ho, Bool.false_and, Bool.false_and]
  · rw [Bool.eq_iff_iff, has_raw h ho]
    unfold normS
    rw [has_rg (spans_ok h).1 ho, in_spans h]
theorem has_append (l m : List Rg) (o : Int) : hasS (l ++ m) o = (hasS l o || hasS m o) := by
  unfold hasS
  rw [List.any_append, Bool.and_or_distrib_left]
def gapR : Int → List Sp → List Sp
  | a, [] => if a < 1112064 then [⟨a, 1112064⟩] else []
  | a, x :: L => (if a < x.f0 then [⟨a, x.f0⟩] else []) ++ gapR x.f1 L
theorem gap_rec : ∀ (L : List Sp) (a : Int) (O : List Sp), upS (L.foldl stepG (a, O)).1 1112064 (L.foldl stepG (a, O)).2 = O ++ gapR a L
  | [], a, O => by
    show upS a 1112064 O = _
    unfold upS gapR
    by_cases c : a < 1112064
    · rw [if_pos c, if_pos c]
    · rw [if_neg c, if_neg c, List.append_nil]
  | x :: L, a, O => by
    show upS (L.foldl stepG (x.f1, upS a x.f0 O)).1 1112064 (L.foldl stepG (x.f1, upS a x.f0 O)).2 = _
    rw [gap_rec L x.f1 (upS a x.f0 O)]
    unfold upS
    rw [gapR]
    by_cases c : a < x.f0
    · rw [if_pos c, if_pos c, List.append_assoc]
    · rw [if_neg c, if_neg c, List.nil_append]
theorem gap_is (L : List Sp) : gapS L = gapR 0 L := by
  have h := gap_rec L 0 []
  rw [List.nil_append] at h
  exact h
theorem gapR_nf : ∀ (L : List Sp) (a lo : Int), lo < a → NFb (a - 1) L → okS L → NFb lo (gapR a L)
  | [], a, lo, hl, _, _ => by
    unfold gapR
    by_cases c : a < 1112064
    · rw [if_pos c]
      exact ⟨hl, c, trivial⟩
    · rw [if_neg c]
      trivial
  | x :: L, a, lo, hl, hn, ho => by
    obtain ⟨h1, h2, h3⟩ := hn
    have h1' : a - 1 < x.f0 := h1
    have h2' : x.f0 < x.f1 := h2
    have hL : NFb (x.f1 - 1) L := NFb_mono h3 (show x.f1 - 1 ≤ x.f1 by omega)
    have hoL : okS L := fun y hy => ho y (List.mem_cons_of_mem _ hy)
    unfold gapR
    by_cases c : a < x.f0
    · rw [if_pos c]
      exact ⟨hl, c, gapR_nf L x.f1 x.f0 h2' hL hoL⟩
    · rw [if_neg c, List.nil_append]
      exact gapR_nf L x.f1 lo (by omega) hL hoL
theorem gapR_ok : ∀ (L : List Sp) (a : Int), 0 ≤ a → NFb (a - 1) L → okS L → okS (gapR a L)
  | [], a, h0, _, _ => by
    unfold gapR
    by_cases c : a < 1112064
    · rw [if_pos c]
      intro x hx
      obtain rfl := List.mem_singleton.1 hx
      exact ⟨h0, c, Int.le_refl _⟩
    · rw [if_neg c]
      intro x hx
      cases hx
  | x :: L, a, h0, hn, ho => by
    obtain ⟨h1, h2, h3⟩ := hn
    obtain ⟨o0, o1, o2⟩ := ho x (List.mem_cons_self ..)
    have hL : NFb (x.f1 - 1) L := NFb_mono h3 (show x.f1 - 1 ≤ x.f1 by omega)
    have hoL : okS L := fun y hy => ho y (List.mem_cons_of_mem _ hy)
    have ih := gapR_ok L x.f1 (by omega) hL hoL
    unfold gapR
    by_cases c : a < x.f0
    · rw [if_pos c]
      intro y hy
      rcases List.mem_append.1 hy with hy | hy
      · obtain rfl := List.mem_singleton.1 hy
        exact ⟨h0, c, by show x.f0 ≤ _; omega⟩
      · exact ih y hy
    · rw [if_neg c, List.nil_append]
      exact ih
theorem gapR_in (n : Int) : ∀ (L : List Sp) (a : Int), NFb (a - 1) L → okS L → (inS (gapR a L) n ↔ a ≤ n ∧ n < 1112064 ∧ ¬ inS L n)
  | [], a, _, _ => by
    unfold gapR
    by_cases c : a < 1112064
    · rw [if_pos c, inS_cons]
      have := inS_nil n
      show ((a ≤ n ∧ n < 1112064) ∨ inS [] n) ↔ _
      constructor
      · rintro (h | h)
        · exact ⟨h.1, h.2, this⟩
        · exact absurd h this
      · rintro ⟨h1, h2, _⟩
        exact .inl ⟨h1, h2⟩
    · rw [if_neg c]
      constructor
      · intro h
        exact absurd h (inS_nil n)
      · rintro ⟨h1, h2, _⟩
        omega
  | x :: L, a, hn, ho => by
    obtain ⟨h1, h2, h3⟩ := hn
    obtain ⟨o0, o1, o2⟩ := ho x (List.mem_cons_self ..)
    have h1' : a - 1 < x.f0 := h1
    have hL : NFb (x.f1 - 1) L := NFb_mono h3 (show x.f1 - 1 ≤ x.f1 by omega)
    have hoL : okS L := fun y hy => ho y (List.mem_cons_of_mem _ hy)
    have ih := gapR_in n L x.f1 hL hoL
    have hlow : inS L n → x.f1 < n := fun ⟨y, hy, hy1, _⟩ => by
      have := (NFb_mem h3 y hy).1
      have h5 : x.f1 < y.f0 := this
      have h6 : y.f0 ≤ n := hy1
      omega
    rw [inS_cons]
    have hmid : inS (gapR a (x :: L)) n ↔ (a ≤ n ∧ n < x.f0) ∨ inS (gapR x.f1 L) n := by
      show inS ((if a < x.f0 then [⟨a, x.f0⟩] else []) ++ gapR x.f1 L) n ↔ _
      by_cases c : a < x.f0
      · rw [if_pos c, List.singleton_append, inS_cons]
      · rw [if_neg c, List.nil_append]
        constructor
        · exact .inr
        · rintro (h | h)
          · omega
          · exact h
    rw [hmid, ih]
    show _ ↔ a ≤ n ∧ n < 1112064 ∧ ¬ ((x.f0 ≤ n ∧ n < x.f1) ∨ inS L n)
    by_cases hi : inS L n
    · have := hlow hi
      constructor
      · rintro (h | h)
        · omega
        · exact absurd hi h.2.2
      · rintro ⟨_, _, h⟩
        exact absurd (.inr hi) h
    · constructor
      · rintro (h | h)
        · exact ⟨h.1, by omega, fun h2 => h2.elim (fun h3 => by omega) hi⟩
        · exact ⟨by omega, h.2.1, fun h2 => h2.elim (fun h3 => by omega) hi⟩
      · rintro ⟨h4, h5, h6⟩
        by_cases c : n < x.f0
        · exact .inl ⟨h4, c⟩
        · refine .inr ⟨?_, h5, hi⟩
          by_cases d : n < x.f1
          · exact absurd (.inl ⟨by omega, d⟩) h6
          · omega
theorem has_not {l : List Rg} (h : okR l = true) (o : Int) : hasS (notS l) o = (isS o && !hasS l o) := by
  obtain ⟨h1, h2⟩ := spans_ok h
  have hn : NFb ((0 : Int) - 1) (spansS l) := h2
  have hok := gapR_ok (spansS l) 0 (Int.le_refl _) hn h1
  cases ho : isS o
  · unfold hasS
    rw [ho]
    rfl
  · obtain ⟨_, n0, n1⟩ := num_val ho
    unfold notS
    rw [gap_is, Bool.true_and, Bool.eq_iff_iff, has_rg hok ho, gapR_in (numS o) _ 0 hn h1, in_spans h, ← has_raw h ho]
    cases hasS l o <;> simp <;> omega
/-- a list that is its own normal form -/
def NFl (l : List Rg) : Prop := ∃ L, okS L ∧ NFb (-1) L ∧ l = L.map rgS
theorem NFl_ext {l m : List Rg} (h : NFl l) (k : NFl m) (e : ∀ o, hasS l o = hasS m o) : l = m := by
  obtain ⟨L, h1, h2, rfl⟩ := h
  obtain ⟨M, k1, k2, rfl⟩ := k
  have hLM : L = M := by
    refine NFb_unique L M (-1) h2 k2 (fun n => ?_)
    by_cases hn : 0 ≤ n ∧ n < 1112064
    · obtain ⟨v1, v2, _, _⟩ := val_num hn.1 hn.2
      have e1 := e (valS n)
      have a1 := has_rg h1 v2
      have a2 := has_rg k1 v2
      rw [v1] at a1 a2
      rw [← a1, ← a2, e1]
    · constructor
      · rintro ⟨x, hx, hx1, hx2⟩
        have h3 := h1 x hx
        have hx1' : x.f0 ≤ n := hx1
        have hx2' : n < x.f1 := hx2
        exact absurd ⟨by omega, by omega⟩ hn
      · rintro ⟨x, hx, hx1, hx2⟩
        have h3 := k1 x hx
        have hx1' : x.f0 ≤ n := hx1
        have hx2' : n < x.f1 := hx2
        exact absurd ⟨by omega, by omega⟩ hn
  rw [hLM]
theorem NFl_norm {l : List Rg} (h : okR l = true) : NFl (normS l) := ⟨spansS l, (spans_ok h).1, (spans_ok h).2, rfl⟩
theorem NFl_not {l : List Rg} (h : okR l = true) : NFl (notS l) := by
  obtain ⟨h1, h2⟩ := spans_ok h
  refine ⟨gapR 0 (spansS l), gapR_ok (spansS l) 0 (Int.le_refl _) h2 h1, gapR_nf (spansS l) 0 (-1) (by decide) h2 h1, ?_⟩
  unfold notS
  rw [gap_is]
theorem norm_NFl {l : List Rg} (h : NFl l) : normS l = l := by
  obtain ⟨L, h1, h2, rfl⟩ := h
  unfold normS
  rw [spans_rg h1 h2]
theorem NFl_ok {l : List Rg} (h : NFl l) (hl : l.length ≤ 1000000) : okR l = true := by
  obtain ⟨L, h1, h2, rfl⟩ := h
  rw [List.length_map] at hl
  exact okR_rg h1 hl
/-- how many of the first numbers are so -/
def cnt (p : Int → Bool) : Nat → Int
  | 0 => 0
  | n + 1 => cnt p n + (if p n = true then 1 else 0)
theorem cnt_succ (p : Int → Bool) (N : Nat) : cnt p (N + 1) = cnt p N + (if p (N : Int) = true then 1 else 0) := rfl
theorem cnt_congr {p q : Int → Bool} : ∀ N : Nat, (∀ n : Int, 0 ≤ n → n < N → p n = q n) → cnt p N = cnt q N
  | 0, _ => rfl
  | N + 1, h => by
    show cnt p N + _ = cnt q N + _
    rw [cnt_congr N (fun n h0 h1 => h n h0 (by omega)), h N (by omega) (by omega)]
theorem cnt_or_and (p q : Int → Bool) : ∀ N : Nat, cnt (fun n => p n || q n) N + cnt (fun n => p n && q n) N = cnt p N + cnt q N
  | 0 => rfl
  | N + 1 => by
    have ih := cnt_or_and p q N
    rw [cnt_succ, cnt_succ, cnt_succ, cnt_succ]
    generalize cnt (fun n => p n || q n) N = a at *
    generalize cnt (fun n => p n && q n) N = b at *
    generalize cnt p N = c at *
    generalize cnt q N = d at *
    cases p N <;> cases q N <;> simp only [Bool.or_true, Bool.or_false, Bool.and_true, Bool.and_false, Bool.false_eq_true, if_true, if_false] <;> omega
theorem cnt_not (p : Int → Bool) : ∀ N : Nat, cnt p N + cnt (fun n => !p n) N = N
  | 0 => rfl
  | N + 1 => by
    have ih := cnt_not p N
    rw [cnt_succ, cnt_succ]
    generalize cnt (fun n => !p n) N = a at *
    generalize cnt p N = c at *
    cases p N <;> simp only [Bool.not_true, Bool.not_false, Bool.false_eq_true, if_true, if_false] <;> omega
theorem cnt_none {p : Int → Bool} : ∀ N : Nat, (∀ n : Int, 0 ≤ n → n < N → p n = false) → cnt p N = 0
  | 0, _ => rfl
  | N + 1, h => by
    show cnt p N + _ = 0
    rw [cnt_none N (fun n h0 h1 => h n h0 (by omega)), h N (by omega) (by omega)]
    rfl
theorem cnt_nonneg (p : Int → Bool) : ∀ N : Nat, 0 ≤ cnt p N ∧ cnt p N ≤ N
  | 0 => ⟨Int.le_refl _, Int.le_refl _⟩
  | N + 1 => by
    have ih := cnt_nonneg p N
    show 0 ≤ cnt p N + _ ∧ cnt p N + _ ≤ _
    split <;> omega
theorem cnt_iv (a : Int) (h0 : 0 ≤ a) : ∀ (N : Nat) (b : Int), a ≤ b → b ≤ N → cnt (fun n => decide (a ≤ n) && decide (n < b)) N = b - a
  | 0, b, h1, h2 => by
    show (0 : Int) = _
    omega
  | N + 1, b, h1, h2 => by
    by_cases c : b ≤ N
    · have ih := cnt_iv a h0 N b h1 c
      rw [cnt_succ, ih]
      rw [decide_eq_false (show ¬ (N : Int) < b by omega), Bool.and_false]
      simp
    · by_cases d : a ≤ N
      · have ih := cnt_iv a h0 N N d (Int.le_refl _)
        rw [cnt_succ, cnt_congr N (q := fun n => decide (a ≤ n) && decide (n < (N : Int))) (fun n k0 k1 => by rw [decide_eq_true k1, decide_eq_true (show n < b by omega)]), ih]
        rw [decide_eq_true d, decide_eq_true (show (N : Int) < b by omega)]
        simp
        omega
      · rw [cnt_none (N + 1) (fun n k0 k1 => by rw [decide_eq_false (show ¬ a ≤ n by omega)]; rfl)]
        omega
def inB (L : List Sp) (n : Int) : Bool := L.any (fun x => decide (x.f0 ≤ n) && decide (n < x.f1))
theorem inB_iff (L : List Sp) (n : Int) : inB L n = true ↔ inS L n := by
  unfold inB inS
  rw [List.any_eq_true]
  constructor
  · rintro ⟨x, hx, h⟩
    simp only [Bool.and_eq_true, decide_eq_true_eq] at h
    exact ⟨x, hx, h.1, h.2⟩
  · rintro ⟨x, hx, h1, h2⟩
    refine ⟨x, hx, ?_⟩
    simp only [Bool.and_eq_true, decide_eq_true_eq]
    exact ⟨h1, h2⟩
theorem sum_cnt : ∀ (L : List Sp) (lo : Int), NFb lo L → okS L → sumS L = cnt (inB L) 1112064
  | [], _, _, _ => (cnt_none 1112064 (fun _ _ _ => rfl)).symm
  | x :: L, lo, h, ho => by
    obtain ⟨h1, h2, h3⟩ := h
    obtain ⟨o0, o1, o2⟩ := ho x (List.mem_cons_self ..)
    have ih := sum_cnt L x.f1 h3 (fun y hy => ho y (List.mem_cons_of_mem _ hy))
    have e1 := cnt_iv x.f0 o0 1112064 x.f1 (by omega) o2
    have e2 := cnt_or_and (fun n => decide (x.f0 ≤ n) && decide (n < x.f1)) (inB L) 1112064
    have e3 := cnt_none (p := fun n => (decide (x.f0 ≤ n) && decide (n < x.f1)) && inB L n) 1112064 (fun n _ _ => by
      rw [Bool.eq_false_iff]
      intro hc
      simp only [Bool.and_eq_true, decide_eq_true_eq] at hc
      have h4 := NFb_lt h3 n ((inB_iff L n).1 hc.2)
      have h5 : x.f1 < n := h4
      omega)
    rw [e3, e1, ← ih] at e2
    show x.f1 - x.f0 + sumS L = _
    rw [← e2, Int.add_zero]
    exact cnt_congr 1112064 (fun n _ _ => rfl)
theorem count_has {l : List Rg} (h : okR l = true) : sumS (spansS l) = cnt (fun n => hasS l (valS n)) 1112064 := by
  rw [sum_cnt _ (-1) (spans_ok h).2 (spans_ok h).1]
  refine cnt_congr 1112064 (fun n h0 h1 => ?_)
  obtain ⟨v1, v2, _, _⟩ := val_num h0 (by omega)
  have e := has_raw h v2
  rw [v1, ← in_spans h, ← inB_iff] at e
  rw [Bool.eq_iff_iff]
  exact e.symm
theorem sum_bd {l : List Rg} (h : okR l = true) : 0 ≤ sumS (spansS l) ∧ sumS (spansS l) ≤ 1112064 := by
  rw [count_has h]
  exact cnt_nonneg _ _
end Go.Proofs.Ytmmdnjooddhhoaa.Rn
