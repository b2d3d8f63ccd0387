/- RunesHave: the pieces' answers. -/
import Derived.Test.YtmmdnjooddhhoaaRpP
import Derived.Test.YtmmdnjooddhhoaaRnYa
set_option linter.unusedVariables false
set_option linter.unusedSimpArgs false
namespace Go.Proofs.Ytmmdnjooddhhoaa.Rn
open Go Go.RowKit Go.Proofs.YtmmdnjooddhhoaaW.PrintWords Go.Proofs.YtmmdnjooddhhoaaW.PrintLast Go.Proofs.YtmmdnjooddhhoaaW.PrintMore
theorem have_j3 (l m : List Rg) (r : Int) (h : okR l = true) (k : okR m = true) (hl : l.length ≤ 30) (hm : m.length ≤ 30) (n : Nat) (hn : 40 < n) : gobolaw5_RunesHave.j3 (n + 1) l m r (hasS l r) (hasS m r) (isS r) = some true := by
  have hnorm := norm_fk l h n (by omega)
  have happ := okR_append h k (by omega)
  obtain ⟨ha, hb⟩ := and_f h k (by omega) (by omega)
  have e1 : runes_Has.f (normS l) r = some (hasS l r) := by unfold runes_Has.f; rw [has_norm h]
  have e2 : runes_Has.f (normS (l ++ m)) r = some (hasS l r || hasS m r) := by unfold runes_Has.f; rw [has_norm happ, has_append]
  have e3 : runes_Has.f (andS l m) r = some (hasS l r && hasS m r) := by unfold runes_Has.f; rw [hb]
  have e4 : runes_Has.f (notS l) r = some (isS r && !hasS l r) := by unfold runes_Has.f; rw [has_not h]
  simp only [gobolaw5_RunesHave.j3]
  rw [show gobolaw5_told.f = some true from rfl, hnorm, or_f happ, ha, not_f h]
  simp only [Option.bind_some, e1, e2, e3, e4]
  generalize hasS l r = x
  generalize hasS m r = y
  generalize isS r = s
  cases x <;> cases y <;> cases s <;> rfl
theorem have_j2 (l m : List Rg) (r : Int) (h : okR l = true) (k : okR m = true) (hl : l.length ≤ 30) (hm : m.length ≤ 30) (n : Nat) (hn : 40 < n) : gobolaw5_RunesHave.j2 (n + 2) l m r = some true := by
  have h1 := have_j3 l m r h k hl hm n hn
  simp only [gobolaw5_RunesHave.j2]
  rw [show runes_Has.f l r = some (hasS l r) from rfl, show runes_Has.f m r = some (hasS m r) from rfl, Option.bind_some, Option.bind_some]
  by_cases c1 : r ≥ 0
  · rw [if_pos c1]
    by_cases c2 : r ≤ 1114111
    · rw [if_pos c2]
      by_cases c3 : r < 55296
      · rw [if_pos c3]
        rw [(isS_iff r).2 (.inl ⟨c1, c3⟩)] at h1
        exact h1
      · rw [if_neg c3]
        rw [show isS r = decide (r > 57343) by rw [Bool.eq_iff_iff, isS_iff, decide_eq_true_eq]; omega] at h1
        exact h1
    · rw [if_neg c2]
      rw [isS_off (by omega)] at h1
      exact h1
  · rw [if_neg c1]
    rw [isS_off (by omega)] at h1
    exact h1
theorem have_j1 (l m : List Rg) (r near : Int) (x : Bool) (hx : x = true → 0 < l.length) (h : okR l = true) (k : okR m = true) (hl : l.length ≤ 30) (hm : m.length ≤ 30) (n : Nat) (hn : 40 < n) : gobolaw5_RunesHave.j1 (n + 3) l m r near x = some true := by
  have h1 := fun r => have_j2 l m r h k hl hm n hn
  simp only [gobolaw5_RunesHave.j1]
  cases x
  · rw [if_neg (by decide), h1]
  · have hp := hx rfl
    have hL : IntKind.u64.wrap (l.length : Int) = (l.length : Int) := by
      simp only [IntKind.wrap, IntKind.bits, IntKind.signed, Bool.false_and, Bool.false_eq_true, if_false]
      omega
    have hW : 0 ≤ IntKind.u64.wrap near := by
      simp only [IntKind.wrap, IntKind.bits, IntKind.signed, Bool.false_and, Bool.false_eq_true, if_false]
      omega
    rw [hL, if_pos rfl, if_neg (by omega)]
    generalize IntKind.u64.wrap near = W at *
    have t0 : 0 ≤ Int.tmod W l.length := Int.tmod_nonneg _ hW
    have t1 : Int.tmod W l.length < l.length := Int.tmod_lt_of_pos _ (by omega)
    have t2 : wrap64 (Int.tmod W l.length) = Int.tmod W l.length := by
      generalize Int.tmod W l.length = q at *
      unfold wrap64
      omega
    rw [t2, if_pos t0, if_pos t1]
    repeat' split
    all_goals exact h1 _
theorem have_f (l m : List Rg) (r near : Int) (h : rgOk l = true) (k : rgOk m = true) : gobolaw5_RunesHave.f 45 l m r near = some true := by
  unfold gobolaw5_RunesHave.f
  rw [show gobolaw5_Few.f l = some (decide ((l.length : Int) ≤ 30)) from rfl, show gobolaw5_Few.f m = some (decide ((m.length : Int) ≤ 30)) from rfl, Option.bind_some, Option.bind_some]
  have hj : gobolaw5_RunesHave.j0 45 l m r near true = some true := by
    simp only [gobolaw5_RunesHave.j0]
    rfl
  by_cases c1 : (l.length : Int) ≤ 30
  · rw [if_pos (decide_eq_true c1)]
    by_cases c2 : (m.length : Int) ≤ 30
    · rw [decide_eq_true c2]
      have h1 := fun x hx => have_j1 l m r near x hx (okR_of h (by omega)) (okR_of k (by omega)) (by omega) (by omega) 41 (by omega)
      simp only [gobolaw5_RunesHave.j0]
      rw [if_neg (by decide)]
      by_cases c3 : (l.length : Int) > 0
      · rw [if_pos c3]
        exact h1 _ (fun _ => by omega)
      · rw [if_neg c3]
        exact h1 false (fun hx => by cases hx)
    · rw [decide_eq_false c2]
      exact hj
  · rw [if_neg (by rw [decide_eq_false c1]; decide)]
    exact hj
end Go.Proofs.Ytmmdnjooddhhoaa.Rn
