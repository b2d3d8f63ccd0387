/- the document's sets of runes are the program's: Norm, Or, And, Not, Count, Has, Same. -/
import Derived.Test.YtmmdnjooddhhoaaRnD
import Derived.Test.YtmmdnjooddhhoaaRnYa
set_option linter.unusedVariables false
set_option linter.unusedSimpArgs false
namespace Go.Proofs.Ytmmdnjooddhhoaa.Rn
open Go Go.RowKit Go.Proofs.YtmmdnjooddhhoaaW.PrintWords Go.Proofs.YtmmdnjooddhhoaaW.PrintLast Go.Proofs.YtmmdnjooddhhoaaW.PrintMore
theorem ev_if {α : Type} {c : Prop} [Decidable c] {f g : Nat → Option α} {r : α} (h : c) (k : Ev f r) : Ev (fun n => if c then f n else g n) r := Ev.congr (fun _ => if_pos h) k
theorem ev_else {α : Type} {c : Prop} [Decidable c] {f g : Nat → Option α} {r : α} (h : ¬ c) (k : Ev g r) : Ev (fun n => if c then f n else g n) r := Ev.congr (fun _ => if_neg h) k
theorem ev_some {α : Type} {o : Option α} {r : α} (h : o = some r) : Ev (fun _ => o) r := ⟨0, fun _ _ => h⟩
theorem ev_from {α : Type} {g : Nat → Option α} {r : α} (K : Nat) (h : ∀ k, K < k → g k = some r) : Ev g r := ⟨K + 1, fun k hk => h k (by omega)⟩
theorem ev_bind1 {α : Type} {g : Nat → Option α} {r : α} (h : Ev g r) : Ev (fun n => (g n).bind fun t => some t) r := Ev.congr (fun k => by cases g k <;> rfl) h
theorem pick_is {O : List Sp} {m : List Rg} (o1 : okS O) (o2 : NFb (-1) O) (hm : NFl m) (h : ∀ o, isS o = true → (inS O (numS o) ↔ hasS m o = true)) : O.map rgS = m :=
  NFl_ext ⟨O, o1, o2, rfl⟩ hm (fun o => by
    cases ho : isS o
    · unfold hasS
      rw [ho]
      rfl
    · rw [Bool.eq_iff_iff, has_rg o1 ho]
      exact h o ho)
theorem inB_has {l : List Rg} (h : okR l = true) {o : Int} (ho : isS o = true) : inB (rawS l) (numS o) = hasS l o := by
  rw [Bool.eq_iff_iff, inB_iff, has_raw h ho]
theorem hop1 (A B : List Ce) (c : List Int) (k : Nat) (out : List Rg) (opn : Bool) (i : Nat) (h : i + 1 < c.length) (hl : c.length ≤ 10000000) : goboref3_pick.l0 (k + 1) A B 1 c out opn (i : Int) = (goboref3_in.f k A (rd c (i : Int))).bind fun t => (goboref3_in.f k B (rd c (i : Int))).bind fun u => goboref3_pick.j1 k A B 1 c out opn (i : Int) t := by
  simp only [goboref3_pick.l0]
  rw [wsucc (i := i) (by omega), if_pos (by omega), if_pos (by omega), if_pos (by omega)]
  congr 1
  funext t
  congr 1
  funext u
  cases t <;> cases u <;> simp
theorem hop3 (A B : List Ce) (c : List Int) (k : Nat) (out : List Rg) (opn : Bool) (i : Nat) (h : i + 1 < c.length) (hl : c.length ≤ 10000000) : goboref3_pick.l0 (k + 1) A B 3 c out opn (i : Int) = (goboref3_in.f k A (rd c (i : Int))).bind fun t => (goboref3_in.f k B (rd c (i : Int))).bind fun u => goboref3_pick.j1 k A B 3 c out opn (i : Int) (t || u) := by
  simp only [goboref3_pick.l0]
  rw [wsucc (i := i) (by omega), if_pos (by omega), if_pos (by omega), if_pos (by omega)]
  congr 1
  funext t
  congr 1
  funext u
  cases t <;> cases u <;> simp
theorem hop4 (A B : List Ce) (c : List Int) (k : Nat) (out : List Rg) (opn : Bool) (i : Nat) (h : i + 1 < c.length) (hl : c.length ≤ 10000000) : goboref3_pick.l0 (k + 1) A B 4 c out opn (i : Int) = (goboref3_in.f k A (rd c (i : Int))).bind fun t => (goboref3_in.f k B (rd c (i : Int))).bind fun u => goboref3_pick.j1 k A B 4 c out opn (i : Int) (t && u) := by
  simp only [goboref3_pick.l0]
  rw [wsucc (i := i) (by omega), if_pos (by omega), if_pos (by omega), if_pos (by omega)]
  congr 1
  funext t
  congr 1
  funext u
  cases t <;> cases u <;> simp
theorem hop5 (A B : List Ce) (c : List Int) (k : Nat) (out : List Rg) (opn : Bool) (i : Nat) (h : i + 1 < c.length) (hl : c.length ≤ 10000000) : goboref3_pick.l0 (k + 1) A B 5 c out opn (i : Int) = (goboref3_in.f k A (rd c (i : Int))).bind fun t => (goboref3_in.f k B (rd c (i : Int))).bind fun u => goboref3_pick.j1 k A B 5 c out opn (i : Int) (!t) := by
  simp only [goboref3_pick.l0]
  rw [wsucc (i := i) (by omega), if_pos (by omega), if_pos (by omega), if_pos (by omega)]
  refine congrArg (Option.bind _) (funext fun t => congrArg (Option.bind _) (funext fun u => ?_))
  cases t <;> cases u <;> simp
theorem ref_norm {l : List Rg} (h : okR l = true) (hl : l.length ≤ 100000) : Ev (fun k => goboref3_Norm.f k l) (normS l) := by
  have hr := rawS_len l
  obtain ⟨O, o1, o2, o3, o4⟩ := pick_ev (rawS l) [] (raw_ok h) (fun x hx => by cases hx) (by omega) (by simp) (by simp; omega) 1 (fun t _ => t) hop1
  have hO : O.map rgS = normS l := pick_is o1 o2 (NFl_norm h) (fun o ho => by
    obtain ⟨_, n0, n1⟩ := num_val ho
    rw [o3, has_norm h, ← inB_has h ho]
    constructor
    · exact fun q => q.2.2
    · exact fun q => ⟨n0, n1, q⟩)
  rw [hO] at o4
  unfold goboref3_Norm.f
  exact Ev.bind (cells_ev l h) (ev_bind1 o4)
theorem ref_or {l m : List Rg} (h : okR l = true) (k : okR m = true) (hl : l.length ≤ 100000) (hm : m.length ≤ 100000) : Ev (fun k => goboref3_Or.f k l m) (normS (l ++ m)) := by
  have hr := rawS_len l
  have hr2 := rawS_len m
  have happ := okR_append h k (by omega)
  obtain ⟨O, o1, o2, o3, o4⟩ := pick_ev (rawS l) (rawS m) (raw_ok h) (raw_ok k) (by omega) (by omega) (by omega) 3 (fun t u => t || u) hop3
  have hO : O.map rgS = normS (l ++ m) := pick_is o1 o2 (NFl_norm happ) (fun o ho => by
    obtain ⟨_, n0, n1⟩ := num_val ho
    rw [o3, has_norm happ, has_append, ← inB_has h ho, ← inB_has k ho]
    constructor
    · exact fun q => q.2.2
    · exact fun q => ⟨n0, n1, q⟩)
  rw [hO] at o4
  unfold goboref3_Or.f
  exact Ev.bind (cells_ev l h) (Ev.bind (cells_ev m k) (ev_bind1 o4))
theorem ref_and {l m : List Rg} (h : okR l = true) (k : okR m = true) (hl : l.length ≤ 10000) (hm : m.length ≤ 10000) : Ev (fun k => goboref3_And.f k l m) (andS l m) := by
  have hr := rawS_len l
  have hr2 := rawS_len m
  have h1 := okR_not h (by omega)
  have h2 := okR_not k (by omega)
  have n1 := not_len l
  have n2 := not_len m
  have hN : NFl (andS l m) := NFl_not (okR_norm (okR_append h1 h2 (by omega)))
  obtain ⟨_, hb⟩ := and_f h k hl hm
  obtain ⟨O, o1, o2, o3, o4⟩ := pick_ev (rawS l) (rawS m) (raw_ok h) (raw_ok k) (by omega) (by omega) (by omega) 4 (fun t u => t && u) hop4
  have hO : O.map rgS = andS l m := pick_is o1 o2 hN (fun o ho => by
    obtain ⟨_, n0, n1⟩ := num_val ho
    rw [o3, hb, ← inB_has h ho, ← inB_has k ho]
    constructor
    · exact fun q => q.2.2
    · exact fun q => ⟨n0, n1, q⟩)
  rw [hO] at o4
  unfold goboref3_And.f
  exact Ev.bind (cells_ev l h) (Ev.bind (cells_ev m k) (ev_bind1 o4))
theorem ref_not {l : List Rg} (h : okR l = true) (hl : l.length ≤ 100000) : Ev (fun k => goboref3_Not.f k l) (notS l) := by
  have hr := rawS_len l
  obtain ⟨O, o1, o2, o3, o4⟩ := pick_ev (rawS l) [] (raw_ok h) (fun x hx => by cases hx) (by omega) (by simp) (by simp; omega) 5 (fun t _ => !t) hop5
  have hO : O.map rgS = notS l := pick_is o1 o2 (NFl_not h) (fun o ho => by
    obtain ⟨_, n0, n1⟩ := num_val ho
    rw [o3, has_not h, ho, Bool.true_and, ← inB_has h ho]
    constructor
    · exact fun q => q.2.2
    · exact fun q => ⟨n0, n1, q⟩)
  rw [hO] at o4
  unfold goboref3_Not.f
  exact Ev.bind (cells_ev l h) (ev_bind1 o4)
theorem rsame_l (l m : List Rg) (hlm : l.length = m.length) (hl : l.length ≤ 1000000) (d : Nat) : ∀ i : Nat, i ≤ l.length → l.length - i = d → Ev (fun k => goboref3_Same.l0 k l m (i : Int)) (eqS (l.drop i) (m.drop i)) := by
  induction d with
  | zero =>
    intro i h1 h2
    refine Ev.step (f := fun _ => some true) (fun k => ?_) ?_
    · simp only [goboref3_Same.l0]
      rw [if_neg (by omega)]
    · rw [List.drop_of_length_le (by omega), List.drop_of_length_le (by omega)]
      exact Ev.now _
  | succ d ih =>
    intro i h1 h2
    have hi : i < l.length := by omega
    have hj : i < m.length := by omega
    have e2 := wsucc (i := i) (by omega)
    have hn := ih (i + 1) (by omega) (by omega)
    have r1 := rd_rg l i hi
    have r2 := rd_rg m i hj
    have d1 := List.drop_eq_getElem_cons hi
    have d2 := List.drop_eq_getElem_cons hj
    obtain ⟨x, hx⟩ : ∃ x, l[i] = x := ⟨_, rfl⟩
    obtain ⟨y, hy⟩ : ∃ y, m[i] = y := ⟨_, rfl⟩
    rw [hx] at r1 d1
    rw [hy] at r2 d2
    by_cases c : x.f0 = y.f0 ∧ x.f1 = y.f1
    · obtain ⟨c0, c1⟩ := c
      refine Ev.step (f := fun k => goboref3_Same.l0 k l m ((i + 1 : Nat) : Int)) (fun k => ?_) ?_
      · simp only [goboref3_Same.l0]
        rw [if_pos (by omega), if_pos (by omega), if_pos (by omega), r1, r2, if_neg (by simp [c0, c1]), e2]
      · rw [d1, d2]
        simp only [eqS, c0, c1, beq_self_eq_true, Bool.true_and]
        exact hn
    · refine Ev.step (f := fun _ => some false) (fun k => ?_) ?_
      · simp only [goboref3_Same.l0]
        rw [if_pos (by omega), if_pos (by omega), if_pos (by omega), r1, r2, if_pos]
        simp only [Bool.or_eq_true, Bool.not_eq_true', beq_eq_false_iff_ne]
        by_cases c0 : x.f0 = y.f0
        · exact .inr (fun c1 => c ⟨c0, c1⟩)
        · exact .inl c0
      · have : eqS (l.drop i) (m.drop i) = false := by
          rw [Bool.eq_false_iff]
          intro he
          have he2 := (eqS_iff _ _).1 he
          rw [d1, d2] at he2
          injection he2 with h3 _
          subst h3
          exact c ⟨rfl, rfl⟩
        rw [this]
        exact Ev.now _
theorem ref_same (l m : List Rg) (hl : l.length ≤ 1000000) : Ev (fun k => goboref3_Same.f k l m) (eqS l m) := by
  unfold goboref3_Same.f
  by_cases h : l.length = m.length
  · exact ev_if (by omega) (rsame_l l m h hl l.length 0 (by omega) (by omega))
  · rw [eqS_len l m h]
    exact ev_else (by omega) (Ev.now _)
theorem ref_may {l : List Rg} (h : okR l = true) (hl : l.length ≤ 100000) : Ev (fun k => goboref3_May.f k l) (eqS l (normS l)) := by
  unfold goboref3_May.f
  exact Ev.bind (ref_norm h hl) (ev_bind1 (ref_same l _ (by omega)))
theorem scalar_is (r : Int) : goboref3_Scalar.f r = some (isS r) := by
  unfold goboref3_Scalar.f
  by_cases c1 : r ≥ 0
  · rw [if_pos c1]
    by_cases c2 : r ≤ 1114111
    · rw [if_pos c2]
      by_cases c3 : r < 55296
      · rw [if_pos c3, (isS_iff r).2 (.inl ⟨c1, c3⟩)]
      · rw [if_neg c3]
        congr 1
        rw [Bool.eq_iff_iff, isS_iff, decide_eq_true_eq]
        omega
    · rw [if_neg c2, isS_off (by omega)]
  · rw [if_neg c1, isS_off (by omega)]
theorem rhas_l (l : List Rg) (r : Int) (hl : l.length ≤ 1000000) (d : Nat) : ∀ i : Nat, i ≤ l.length → l.length - i = d → Ev (fun k => goboref3_Has.l0 k l r (i : Int)) ((l.drop i).any (inR r)) := by
  induction d with
  | zero =>
    intro i h1 h2
    refine Ev.step (f := fun _ => some false) (fun k => ?_) ?_
    · simp only [goboref3_Has.l0]
      rw [if_neg (by omega)]
    · rw [List.drop_of_length_le (by omega)]
      exact Ev.now _
  | succ d ih =>
    intro i h1 h2
    have hi : i < l.length := by omega
    have e2 := wsucc (i := i) (by omega)
    have hn := ih (i + 1) (by omega) (by omega)
    have r1 := rd_rg l i hi
    have d1 := List.drop_eq_getElem_cons hi
    obtain ⟨x, hx⟩ : ∃ x, l[i] = x := ⟨_, rfl⟩
    rw [hx] at r1 d1
    rw [d1, List.any_cons]
    by_cases c1 : x.f0 ≤ r
    · by_cases c2 : r ≤ x.f1
      · refine Ev.step (f := fun _ => some true) (fun k => ?_) ?_
        · simp only [goboref3_Has.l0]
          rw [if_pos (by omega), if_pos (by omega), r1, if_pos c1, if_pos c2]
        · rw [show inR r x = true by unfold inR; rw [decide_eq_true c1, decide_eq_true c2]; rfl]
          exact Ev.now _
      · refine Ev.step (f := fun k => goboref3_Has.l0 k l r ((i + 1 : Nat) : Int)) (fun k => ?_) ?_
        · simp only [goboref3_Has.l0]
          rw [if_pos (by omega), if_pos (by omega), r1, if_pos c1, if_neg c2, e2]
        · rw [show inR r x = false by unfold inR; rw [decide_eq_false c2, Bool.and_false], Bool.false_or]
          exact hn
    · refine Ev.step (f := fun k => goboref3_Has.l0 k l r ((i + 1 : Nat) : Int)) (fun k => ?_) ?_
      · simp only [goboref3_Has.l0]
        rw [if_pos (by omega), if_pos (by omega), r1, if_neg c1, e2]
      · rw [show inR r x = false by unfold inR; rw [decide_eq_false c1, Bool.false_and], Bool.false_or]
        exact hn
theorem ref_has (l : List Rg) (r : Int) (hl : l.length ≤ 1000000) : Ev (fun k => goboref3_Has.f k l r) (hasS l r) := by
  unfold goboref3_Has.f
  rw [scalar_is]
  refine Ev.bind (ev_some rfl) ?_
  unfold hasS
  cases isS r
  · exact ev_else (by decide) (Ev.now _)
  · exact ev_if rfl (rhas_l l r hl l.length 0 (by omega) (by omega))
theorem rcount_l (L : List Sp) (hv : okS L) (hL : L.length ≤ 1000000) (d : Nat) : ∀ (i : Nat) (acc : Int), i ≤ L.length → L.length - i = d → 0 ≤ acc → acc ≤ (i : Int) * 1112064 → Ev (fun k => goboref3_Count.l0 k (L.map cl) acc (i : Int)) (acc + sumS (L.drop i)) := by
  induction d with
  | zero =>
    intro i acc h1 h2 _ _
    refine Ev.step (f := fun _ => some acc) (fun k => ?_) ?_
    · simp only [goboref3_Count.l0]
      rw [if_neg (by rw [List.length_map]; omega)]
    · rw [List.drop_of_length_le (by omega), show acc + sumS [] = acc by simp [sumS]]
      exact Ev.now _
  | succ d ih =>
    intro i acc h1 h2 ha hb
    have hi : i < L.length := by omega
    obtain ⟨v0, v1, v2⟩ := hv L[i] (List.getElem_mem hi)
    have e2 := wsucc (i := i) (by omega)
    have r1 := rd_ce (L.map cl) i (by rw [List.length_map]; omega)
    rw [List.getElem_map] at r1
    have d1 := List.drop_eq_getElem_cons hi
    obtain ⟨x, hx⟩ : ∃ x, L[i] = x := ⟨_, rfl⟩
    rw [hx] at r1 d1 v0 v1 v2
    have e3 : wrap64 (wrap64 (acc + (cl x).f1) - (cl x).f0) = acc + (x.f1 - x.f0) := by
      show wrap64 (wrap64 (acc + x.f1) - x.f0) = _
      unfold wrap64
      omega
    refine Ev.step (f := fun k => goboref3_Count.l0 k (L.map cl) (acc + (x.f1 - x.f0)) ((i + 1 : Nat) : Int)) (fun k => ?_) ?_
    · simp only [goboref3_Count.l0]
      rw [if_pos (by rw [List.length_map]; omega), if_pos (by omega), r1, e2, e3]
    · have hn := ih (i + 1) (acc + (x.f1 - x.f0)) (by omega) (by omega) (by omega) (by omega)
      rw [d1, show acc + sumS (x :: L.drop (i + 1)) = acc + (x.f1 - x.f0) + sumS (L.drop (i + 1)) by simp only [sumS]; omega]
      exact hn
theorem ref_count {l : List Rg} (h : okR l = true) (hl : l.length ≤ 100000) : Ev (fun k => goboref3_Count.f k l) (sumS (spansS l)) := by
  unfold goboref3_Count.f
  obtain ⟨o1, o2⟩ := spans_ok h
  have hs := spansS_len l
  have hraw : rawS (normS l) = spansS l := raw_rg o1
  have hc := cells_ev (normS l) (okR_norm h)
  rw [hraw] at hc
  refine Ev.bind (ref_norm h hl) (Ev.bind hc ?_)
  have := rcount_l (spansS l) o1 (by omega) (spansS l).length 0 0 (by omega) (by omega) (by omega) (by omega)
  rw [List.drop_zero, Int.zero_add] at this
  exact this
end Go.Proofs.Ytmmdnjooddhhoaa.Rn
