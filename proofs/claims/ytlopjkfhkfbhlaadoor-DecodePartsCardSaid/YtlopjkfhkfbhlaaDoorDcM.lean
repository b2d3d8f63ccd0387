import Derived.Test.YtlopjkfhkfbhlaaDoorDcL
set_option linter.unusedVariables false
set_option linter.unusedSimpArgs false
namespace Go.Proofs.YtlopjkfhkfbhlaaDoor.Dec
open Go Go.RowKit Go.Proofs.YtlopjkfhkfbhlaaDoorW.PrintWords Go.Proofs.YtlopjkfhkfbhlaaDoorW.PrintLast Go.Proofs.YtlopjkfhkfbhlaaDoorW.PrintMore
theorem feedS_cons (s : St) (b : Int) (r : List Int) : feedS s (b :: r) = feedS (takeS s b) r := rfl
/-- while a rune is begun: what goS tells is what is fed -/
theorem go_feed (t : List Int) : ∀ (held : List Int) (at_ : Int) (out : List Item), held ≠ [] → 
    ((goS (longF (held.headD 0)) held t).2.2.2.2 = true → held.length ≤ (goS (longF (held.headD 0)) held t).1 ∧ (goS (longF (held.headD 0)) held t).1 ≤ held.length + t.length ∧
      feedS ⟨held, at_, out⟩ t = feedS ⟨[], at_ + (goS (longF (held.headD 0)) held t).1, out ++ [⟨(goS (longF (held.headD 0)) held t).2.1, at_, at_ + (goS (longF (held.headD 0)) held t).1, (goS (longF (held.headD 0)) held t).2.2.1, (goS (longF (held.headD 0)) held t).2.2.2.1⟩]⟩ (t.drop ((goS (longF (held.headD 0)) held t).1 - held.length))) ∧
    ((goS (longF (held.headD 0)) held t).2.2.2.2 = false → goS (longF (held.headD 0)) held t = (held.length + t.length, 65533, true, true, false) ∧ feedS ⟨held, at_, out⟩ t = ⟨held ++ t, at_, out⟩) := by
  induction t with
  | nil =>
    intro held at_ out hne
    simp [goS, feedS]
  | cons x t ih =>
    intro held at_ out hne
    have hhd : (held ++ [x]).headD 0 = held.headD 0 := by cases held with | nil => exact absurd rfl hne | cons a r => rfl
    by_cases hg : growOk held x = true
    · by_cases hn : (held.length : Int) + 1 = longF (held.headD 0)
      · have hgo : goS (longF (held.headD 0)) held (x :: t) = (held.length + 1, runeOf (held ++ [x]), false, false, true) := by simp only [goS, hg, if_true]; rw [if_pos hn]
        rw [hgo]
        refine ⟨fun _ => ⟨by simp, by simp, ?_⟩, fun h => by cases h⟩
        have ht : takeS ⟨held, at_, out⟩ x = ⟨[], at_ + ((held.length + 1 : Nat) : Int), out ++ [⟨runeOf (held ++ [x]), at_, at_ + ((held.length + 1 : Nat) : Int), false, false⟩]⟩ := by
          unfold takeS moreS
          rw [if_pos hg, if_pos (by rw [hhd, ← hn]; simp)]
          simp [tellS]
        rw [feedS_cons, ht]
        simp
      · have hgo : goS (longF (held.headD 0)) held (x :: t) = goS (longF (held.headD 0)) (held ++ [x]) t := by simp only [goS, hg, if_true]; rw [if_neg hn]
        rw [hgo]
        have ht : takeS ⟨held, at_, out⟩ x = ⟨held ++ [x], at_, out⟩ := by
          unfold takeS moreS
          rw [if_pos hg, if_neg (by rw [hhd]; simp [-List.headD_eq_head?_getD]; omega)]
        have := ih (held ++ [x]) at_ out (by simp)
        rw [hhd] at this
        rw [feedS_cons, ht]
        refine ⟨fun h => ?_, fun h => ?_⟩
        · obtain ⟨h1, h2, h3⟩ := this.1 h
          rw [List.length_append, List.length_singleton] at h1 h2 h3
          refine ⟨by omega, by rw [List.length_cons]; omega, ?_⟩
          rw [h3]
          congr 1
          rw [show (goS (longF (held.headD 0)) (held ++ [x]) t).1 - held.length = ((goS (longF (held.headD 0)) (held ++ [x]) t).1 - (held.length + 1)) + 1 by omega]
          rfl
        · obtain ⟨h1, h2⟩ := this.2 h
          refine ⟨?_, by rw [h2]; simp⟩
          rw [h1]
          simp
          omega
    · have hg' := Bool.eq_false_iff.2 hg
      have hgo : goS (longF (held.headD 0)) held (x :: t) = (held.length, 65533, true, true, true) := by simp [goS, hg']
      rw [hgo]
      refine ⟨fun _ => ⟨Nat.le_refl _, by simp, ?_⟩, fun h => by cases h⟩
      have ht : takeS ⟨held, at_, out⟩ x = takeS ⟨[], at_ + held.length, out ++ [⟨65533, at_, at_ + held.length, true, true⟩]⟩ x := by
        have e1 : takeS ⟨held, at_, out⟩ x = takeNil (tellS ⟨held, at_, out⟩ true true) x := by
          unfold takeS moreS
          rw [if_neg hg]
          simp [hne]
        rw [e1]
        unfold takeS takeNil
        cases hm : moreS (tellS ⟨held, at_, out⟩ true true) x with
        | some s' => simp [tellS] at hm ⊢; rw [hm]
        | none => simp [tellS] at hm ⊢; rw [hm]
      rw [feedS_cons, ht]
      simp [feedS]
theorem one_feed (l : List Int) (hl : l ≠ []) (at_ : Int) (out : List Item) :
    ((oneS l).2.2.2.2 = true → 1 ≤ (oneS l).1 ∧ (oneS l).1 ≤ l.length ∧
      feedS ⟨[], at_, out⟩ l = feedS ⟨[], at_ + (oneS l).1, out ++ [⟨(oneS l).2.1, at_, at_ + (oneS l).1, (oneS l).2.2.1, (oneS l).2.2.2.1⟩]⟩ (l.drop (oneS l).1)) ∧
    ((oneS l).2.2.2.2 = false → oneS l = (l.length, 65533, true, true, false) ∧ feedS ⟨[], at_, out⟩ l = ⟨l, at_, out⟩) := by
  cases l with
  | nil => exact absurd rfl hl
  | cons a t =>
    by_cases h0 : longF a = 0
    · have ho : oneS (a :: t) = (1, 65533, true, false, true) := by simp [oneS, h0]
      rw [ho]
      refine ⟨fun _ => ⟨Nat.le_refl _, by simp, ?_⟩, fun h => by cases h⟩
      have ht : takeS ⟨[], at_, out⟩ a = ⟨[], at_ + ((1 : Nat) : Int), out ++ [⟨65533, at_, at_ + ((1 : Nat) : Int), true, false⟩]⟩ := by
        unfold takeS moreS
        rw [if_neg (by simp [growOk, h0])]
        simp [tellS]
      rw [feedS_cons, ht]
      rfl
    · by_cases h1 : longF a = 1
      · have ho : oneS (a :: t) = (1, a, false, false, true) := by simp [oneS, h1]
        rw [ho]
        refine ⟨fun _ => ⟨Nat.le_refl _, by simp, ?_⟩, fun h => by cases h⟩
        have ht : takeS ⟨[], at_, out⟩ a = ⟨[], at_ + ((1 : Nat) : Int), out ++ [⟨a, at_, at_ + ((1 : Nat) : Int), false, false⟩]⟩ := by
          unfold takeS moreS
          rw [if_pos (by simp [growOk, h0]), if_pos (by simp [h1])]
          simp [tellS, runeOf]
        rw [feedS_cons, ht]
        rfl
      · have ho : oneS (a :: t) = goS (longF a) [a] t := by simp [oneS, h0, h1]
        rw [ho]
        have ht : takeS ⟨[], at_, out⟩ a = ⟨[a], at_, out⟩ := by
          unfold takeS moreS
          rw [if_pos (by simp [growOk, h0]), if_neg (by simp; omega)]
          rfl
        have := go_feed t [a] at_ out (by simp)
        simp only [List.headD_cons, List.length_singleton] at this
        rw [feedS_cons, ht]
        refine ⟨fun h => ?_, fun h => ?_⟩
        · obtain ⟨k1, k2, k3⟩ := this.1 h
          refine ⟨k1, by simp; omega, ?_⟩
          rw [k3]
          congr 1
          obtain ⟨m, hm⟩ : ∃ m, (goS (longF a) [a] t).1 = m + 1 := ⟨(goS (longF a) [a] t).1 - 1, by omega⟩
          rw [hm]
          rfl
        · obtain ⟨k1, k2⟩ := this.2 h
          refine ⟨?_, k2⟩
          rw [k1]
          simp
          omega
end Go.Proofs.YtlopjkfhkfbhlaaDoor.Dec
