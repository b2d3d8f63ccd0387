/- RunesForms answers true. -/
import Derived.Test.YtmmdnjooddhhoaaRpQ
import Derived.Test.YtmmdnjooddhhoaaRnYa
set_option linter.unusedVariables false
set_option linter.unusedSimpArgs false
namespace Go.Proofs.Ytmmdnjooddhhoaa.Rn
open Go Go.RowKit Go.Proofs.YtmmdnjooddhhoaaW.PrintWords Go.Proofs.YtmmdnjooddhhoaaW.PrintLast Go.Proofs.YtmmdnjooddhhoaaW.PrintMore
theorem forms_j0 (l m : List Rg) (h : okR l = true) (k : okR m = true) (hl : l.length ≤ 30) (hm : m.length ≤ 30) (n : Nat) (hn : 200 < n) : gobolaw5_RunesForms.j0 (n + 1) l m false = some true := by
  have happ := okR_append h k (by omega)
  have happ2 := okR_append k h (by omega)
  have hN := NFl_norm h
  have hO := NFl_norm happ
  have hK := NFl_not h
  have hB := NFl_not k
  have nN := norm_len l
  have nO := norm_len (l ++ m)
  have nO2 := norm_len (m ++ l)
  rw [List.length_append] at nO nO2
  have nK := not_len l
  have nB := not_len m
  have okK := okR_not h (by omega)
  have okB := okR_not k (by omega)
  have okKB := okR_append okK okB (by omega)
  have okM2 := okR_norm okKB
  have nM2 := norm_len (notS l ++ notS m)
  rw [List.length_append] at nM2
  have nM := not_len (normS (notS l ++ notS m))
  have hM : NFl (andS l m) := NFl_not okM2
  have nM' : (andS l m).length < 200 := by
    show (notS (normS (notS l ++ notS m))).length < 200
    omega
  obtain ⟨ha, hb⟩ := and_f h k (by omega) (by omega)
  obtain ⟨ha2, hb2⟩ := and_f okK okB (by omega) (by omega)
  have okN := okR_norm h
  have okO := okR_norm happ
  have okM : okR (andS l m) = true := NFl_ok hM (by omega)
  have nnO := not_len (normS (l ++ m))
  have hKB : NFl (andS (notS l) (notS m)) := by
    have q1 := okR_not okK (by omega)
    have q2 := okR_not okB (by omega)
    have n1 := not_len (notS l)
    have n2 := not_len (notS m)
    exact NFl_not (okR_norm (okR_append q1 q2 (by omega)))
  have e1 : notS (notS l) = normS l := NFl_ext (NFl_not okK) hN (fun o => by
    rw [has_not okK, has_not h, has_norm h]
    cases ho : isS o
    · rw [has_isS ho]; rfl
    · cases hasS l o <;> rfl)
  have e2 : normS (m ++ l) = normS (l ++ m) := NFl_ext (NFl_norm happ2) hO (fun o => by
    rw [has_norm happ2, has_norm happ, has_append, has_append, Bool.or_comm])
  have e3 : andS (notS l) (notS m) = notS (normS (l ++ m)) := NFl_ext hKB (NFl_not okO) (fun o => by
    rw [hb2, has_not h, has_not k, has_not okO, has_norm happ, has_append]
    cases isS o <;> cases hasS l o <;> cases hasS m o <;> rfl)
  have c1 : cnt (fun i => hasS (normS (l ++ m)) (valS i)) 1112064 + cnt (fun i => hasS (andS l m) (valS i)) 1112064 = cnt (fun i => hasS l (valS i)) 1112064 + cnt (fun i => hasS m (valS i)) 1112064 := by
    rw [cnt_congr (p := fun i => hasS (normS (l ++ m)) (valS i)) (q := fun i => hasS l (valS i) || hasS m (valS i)) 1112064 (fun i _ _ => by rw [has_norm happ, has_append])]
    rw [cnt_congr (p := fun i => hasS (andS l m) (valS i)) (q := fun i => hasS l (valS i) && hasS m (valS i)) 1112064 (fun i _ _ => hb _)]
    exact cnt_or_and (fun i => hasS l (valS i)) (fun i => hasS m (valS i)) 1112064
  have c2 : cnt (fun i => hasS (normS l) (valS i)) 1112064 + cnt (fun i => hasS (notS l) (valS i)) 1112064 = 1112064 := by
    have := cnt_not (fun i => hasS l (valS i)) 1112064
    rw [cnt_congr (p := fun i => hasS (normS l) (valS i)) (q := fun i => hasS l (valS i)) 1112064 (fun i _ _ => has_norm h _)]
    rw [cnt_congr (p := fun i => hasS (notS l) (valS i)) (q := fun i => !hasS l (valS i)) 1112064 (fun i i0 i1 => by rw [has_not h, (val_num i0 (by omega)).2.1, Bool.true_and])]
    exact this
  have f1 := norm_fk l h n (by omega)
  have f2 := or_f happ
  have f3 := not_f h
  have f4 := may_nf hN (by omega) n hn
  have f5 := may_nf hO (by omega) n hn
  have f6 := may_nf hM nM' n hn
  have f7 := may_nf hK (by omega) n hn
  have f8 := norm_nf hN (by omega) n hn
  have f9 := same_rfl (x := normS l) (by omega) n hn
  have f10 : runes_Not.f (notS l) = some (normS l) := by rw [not_f okK, e1]
  have f11 := count_cnt okO (by omega) n hn
  have f12 := count_cnt okM nM' n hn
  have f13 := count_cnt h (by omega) n hn
  have f14 := count_cnt k (by omega) n hn
  have f15 := count_cnt okN (by omega) n hn
  have f16 := count_cnt okK (by omega) n hn
  have f17 : runes_Or.f m l = some (normS (l ++ m)) := by rw [or_f happ2, e2]
  have f18 := same_rfl (x := normS (l ++ m)) (by omega) n hn
  have f19 := not_f okO
  have f20 := not_f k
  have f21 : runes_And.f (notS l) (notS m) = some (notS (normS (l ++ m))) := by rw [ha2, e3]
  have f22 := same_rfl (x := notS (normS (l ++ m))) (by omega) n hn
  generalize cnt (fun i => hasS (normS (l ++ m)) (valS i)) 1112064 = z1 at *
  generalize cnt (fun i => hasS (andS l m) (valS i)) 1112064 = z2 at *
  generalize cnt (fun i => hasS l (valS i)) 1112064 = z3 at *
  generalize cnt (fun i => hasS m (valS i)) 1112064 = z4 at *
  generalize cnt (fun i => hasS (normS l) (valS i)) 1112064 = z5 at *
  generalize cnt (fun i => hasS (notS l) (valS i)) 1112064 = z6 at *
  simp only [gobolaw5_RunesForms.j0]
  rw [if_neg (by decide), f1, Option.bind_some, f2, Option.bind_some, ha, Option.bind_some, f3, Option.bind_some, show gobolaw5_told.f = some true from rfl, Option.bind_some, if_pos rfl,
    f4, Option.bind_some, if_pos rfl, f5, Option.bind_some, if_pos rfl, f6, Option.bind_some, if_pos rfl, f7, Option.bind_some, if_pos rfl, f8, Option.bind_some, f9, Option.bind_some, if_pos rfl,
    f10, Option.bind_some, f9, Option.bind_some, if_pos rfl, f11, Option.bind_some, f12, Option.bind_some, f13, Option.bind_some, f14, Option.bind_some, if_pos (by rw [c1]),
    f15, Option.bind_some, f16, Option.bind_some, if_pos (by rw [c2]; unfold wrap64; omega), Option.bind_some, f17, Option.bind_some, f18, Option.bind_some, if_pos rfl, f19, Option.bind_some, f20, Option.bind_some, f21, Option.bind_some, f22, Option.bind_some]
theorem forms_f (l m : List Rg) (h : rgOk l = true) (k : rgOk m = true) : gobolaw5_RunesForms.f 210 l m = some true := by
  unfold gobolaw5_RunesForms.f
  rw [show gobolaw5_Few.f l = some (decide ((l.length : Int) ≤ 30)) from rfl, show gobolaw5_Few.f m = some (decide ((m.length : Int) ≤ 30)) from rfl, Option.bind_some, Option.bind_some]
  have hj : gobolaw5_RunesForms.j0 210 l m true = some true := by
    simp only [gobolaw5_RunesForms.j0]
    rfl
  by_cases c1 : (l.length : Int) ≤ 30
  · rw [if_pos (decide_eq_true c1)]
    by_cases c2 : (m.length : Int) ≤ 30
    · rw [decide_eq_true c2]
      exact forms_j0 l m (okR_of h (by omega)) (okR_of k (by omega)) (by omega) (by omega) 209 (by omega)
    · rw [decide_eq_false c2]
      exact hj
  · rw [if_neg (by rw [decide_eq_false c1]; decide)]
    exact hj
end Go.Proofs.Ytmmdnjooddhhoaa.Rn
