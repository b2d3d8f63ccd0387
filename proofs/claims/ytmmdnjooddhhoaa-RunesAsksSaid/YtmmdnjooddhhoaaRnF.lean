/- RunesAsks answers true. -/
import Derived.Test.YtmmdnjooddhhoaaRpR
import Derived.Test.YtmmdnjooddhhoaaRnE
set_option linter.unusedVariables false
set_option linter.unusedSimpArgs false
namespace Go.Proofs.Ytmmdnjooddhhoaa.Rn
open Go Go.RowKit Go.Proofs.YtmmdnjooddhhoaaW.PrintWords Go.Proofs.YtmmdnjooddhhoaaW.PrintLast Go.Proofs.YtmmdnjooddhhoaaW.PrintMore
theorem asks_in (l m : List Rg) (r : Int) (h : okR l = true) (k : okR m = true) (hl : l.length ≤ 30) (hm : m.length ≤ 30) : Ev (fun n => gobolaw5_RunesAsks.j0 n l m r false) true := by
  have happ := okR_append h k (by omega)
  have nN : (normS l).length ≤ l.length := by unfold normS; rw [List.length_map]; exact spansS_len l
  have nO : (normS (l ++ m)).length ≤ 60 := by
    have := spansS_len (l ++ m)
    rw [List.length_append] at this
    unfold normS
    rw [List.length_map]
    omega
  have nK := not_len l
  have nM : (andS l m).length ≤ 1000 := by
    have a := not_len l
    have b := not_len m
    have c := not_len (normS (notS l ++ notS m))
    have d := spansS_len (notS l ++ notS m)
    rw [List.length_append] at d
    have e : (normS (notS l ++ notS m)).length = (spansS (notS l ++ notS m)).length := by unfold normS; rw [List.length_map]
    show (notS (normS (notS l ++ notS m))).length ≤ 1000
    omega
  have ha := (and_f h k (by omega) (by omega)).1
  have hS : ∀ x : List Rg, x.length ≤ 1000000 → Ev (fun n => goboref3_Same.f n x x) true := fun x hx => by
    have := ref_same x x hx
    rwa [(eqS_iff x x).2 rfl] at this
  refine Ev.step (f := _) (fun n => by simp only [gobolaw5_RunesAsks.j0]; rw [if_neg (by decide)]) ?_
  refine Ev.bind (ev_some (r := true) rfl) (ev_if rfl ?_)
  refine Ev.bind (ev_from l.length (fun n hn => may_f l h n hn)) (Ev.bind (ref_may h (by omega)) (ev_if (by simp) ?_))
  refine Ev.bind (ev_from l.length (fun n hn => norm_fk l h n hn)) (Ev.bind (ref_norm h (by omega)) (Ev.bind (hS _ (by omega)) (ev_if rfl ?_)))
  refine Ev.bind (ev_some (r := hasS l r) rfl) (Ev.bind (ref_has l r (by omega)) (ev_if (by simp) ?_))
  refine Ev.bind (ev_some (or_f happ)) (Ev.bind (ref_or h k (by omega) (by omega)) (Ev.bind (hS _ (by omega)) (ev_if rfl ?_)))
  refine Ev.bind (ev_some ha) (Ev.bind (ref_and h k (by omega) (by omega)) (Ev.bind (hS _ (by omega)) (ev_if rfl ?_)))
  refine Ev.bind (ev_some (not_f h)) (Ev.bind (ref_not h (by omega)) (Ev.bind (hS _ (by omega)) (ev_if rfl ?_)))
  refine Ev.bind (ev_from l.length (fun n hn => count_f l h n hn)) (Ev.bind (ref_count h (by omega)) (ev_if rfl ?_))
  refine Ev.bind (ev_from l.length (fun n hn => same_f l m (by omega) n hn)) (Ev.bind (ref_same l m (by omega)) ?_)
  exact ev_some (by simp)
theorem asks_ev (l m : List Rg) (r : Int) (h : rgOk l = true) (k : rgOk m = true) : ∃ n, gobolaw5_RunesAsks.f n l m r = some true := by
  refine Ev.rounds ?_
  unfold gobolaw5_RunesAsks.f
  have hj : Ev (fun n => gobolaw5_RunesAsks.j0 n l m r true) true := by
    refine Ev.step (f := fun _ => some true) (fun n => ?_) (Ev.now _)
    simp only [gobolaw5_RunesAsks.j0]
    rfl
  refine Ev.bind (ev_some (r := decide ((l.length : Int) ≤ 30)) rfl) ?_
  by_cases c1 : (l.length : Int) ≤ 30
  · refine ev_if (decide_eq_true c1) (Ev.bind (ev_some (r := decide ((m.length : Int) ≤ 30)) rfl) ?_)
    by_cases c2 : (m.length : Int) ≤ 30
    · rw [decide_eq_true c2]
      exact asks_in l m r (okR_of h (by omega)) (okR_of k (by omega)) (by omega) (by omega)
    · rw [decide_eq_false c2]
      exact hj
  · exact ev_else (by rw [decide_eq_false c1]; decide) hj
end Go.Proofs.Ytmmdnjooddhhoaa.Rn
