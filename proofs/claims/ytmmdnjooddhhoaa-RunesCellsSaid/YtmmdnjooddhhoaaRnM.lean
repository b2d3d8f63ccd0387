/- RunesCells answers true. -/
import Derived.Test.YtmmdnjooddhhoaaRpV
import Derived.Test.YtmmdnjooddhhoaaRnBa
set_option linter.unusedVariables false
set_option linter.unusedSimpArgs false
namespace Go.Proofs.Ytmmdnjooddhhoaa.Rn
open Go Go.RowKit Go.Proofs.YtmmdnjooddhhoaaW.PrintWords Go.Proofs.YtmmdnjooddhhoaaW.PrintLast Go.Proofs.YtmmdnjooddhhoaaW.PrintMore
theorem has_val {l : List Rg} (h : okR l = true) {n : Int} (h0 : 0 ≤ n) (h1 : n < 1112064) : hasS l (valS n) = inB (spansS l) n := by
  obtain ⟨v1, v2, _, _⟩ := val_num h0 h1
  have e := has_raw h v2
  rw [v1, ← in_spans h, ← inB_iff] at e
  rw [Bool.eq_iff_iff]
  exact e
theorem one_val {s : Sp} (h0 : 0 ≤ s.f0) (h1 : s.f0 < s.f1) (h2 : s.f1 ≤ 1112064) : okR [rgS s] = true ∧ spansS [rgS s] = [s] := by
  have o : okS [s] := fun x hx => by
    obtain rfl := List.mem_singleton.1 hx
    exact ⟨h0, h1, h2⟩
  exact ⟨okR_rg (L := [s]) o (by simp), spans_rg (L := [s]) o ⟨by show -1 < s.f0; omega, h1, trivial⟩⟩
/-- a cell within a set, or outside -/
theorem cell_and {a : List Rg} (h : okR a = true) (hl : a.length ≤ 30) {s : Sp} (h0 : 0 ≤ s.f0) (h1 : s.f0 < s.f1) (h2 : s.f1 ≤ 1112064) (hc : ∀ n, s.f0 ≤ n → n < s.f1 → inB (spansS a) n = inB (spansS a) s.f0) (n : Nat) (hn : 200 < n) :
    ∃ x, runes_And.f [rgS s] a = some x ∧ runes_Count.f n x = some (if inB (spansS a) s.f0 = true then s.f1 - s.f0 else 0) := by
  obtain ⟨o1, o2⟩ := one_val h0 h1 h2
  obtain ⟨ha, hb⟩ := and_f o1 h (by simp) (by omega)
  have k1 := okR_not o1 (by simp)
  have k2 := okR_not h (by omega)
  have n1 := not_len [rgS s]
  have n2 := not_len a
  rw [List.length_singleton] at n1
  have k3 := okR_append k1 k2 (by omega)
  have n3 := norm_len (notS [rgS s] ++ notS a)
  rw [List.length_append] at n3
  have n4 := not_len (normS (notS [rgS s] ++ notS a))
  have n5 : (andS [rgS s] a).length ≤ 100 := by
    show (notS (normS (notS [rgS s] ++ notS a))).length ≤ 100
    omega
  have k5 : okR (andS [rgS s] a) = true := NFl_ok (NFl_not (okR_norm k3)) (by omega)
  refine ⟨_, ha, ?_⟩
  rw [count_cnt k5 (by omega) n hn]
  refine congrArg some ?_
  have e : ∀ i : Int, 0 ≤ i → i < (1112064 : Nat) → hasS (andS [rgS s] a) (valS i) = ((decide (s.f0 ≤ i) && decide (i < s.f1)) && inB (spansS a) s.f0) := fun i i0 i1 => by
    rw [hb, has_val o1 i0 (by omega), has_val h i0 (by omega), o2]
    rw [show inB [s] i = ((decide (s.f0 ≤ i) && decide (i < s.f1)) || false) from rfl, Bool.or_false]
    by_cases c0 : s.f0 ≤ i
    · by_cases c1 : i < s.f1
      · rw [hc i c0 c1]
      · rw [decide_eq_false c1, Bool.and_false, Bool.false_and, Bool.false_and]
    · rw [decide_eq_false c0, Bool.false_and, Bool.false_and, Bool.false_and]
  rw [cnt_congr 1112064 e]
  by_cases g : inB (spansS a) s.f0 = true
  · rw [if_pos g, g, cnt_congr (q := fun i => decide (s.f0 ≤ i) && decide (i < s.f1)) 1112064 (fun i _ _ => Bool.and_true _)]
    exact cnt_iv s.f0 h0 1112064 s.f1 (by omega) h2
  · rw [if_neg g, Bool.eq_false_iff.2 g]
    exact cnt_none 1112064 (fun i _ _ => Bool.and_false _)
theorem ev_at {α : Type} {g : Nat → Option α} {r : α} (h : ∀ n, 200 < n → g n = some r) : Ev g r := ⟨201, fun k hk => h k (by omega)⟩
theorem cells_law_l (a b : List Rg) (ha : okR a = true) (hb : okR b = true) (la : a.length ≤ 30) (lb : b.length ≤ 30) (S : List Sp) (hS : S.length ≤ 1000000)
    (hs : ∀ s, s ∈ S → 0 ≤ s.f0 ∧ s.f0 < s.f1 ∧ s.f1 ≤ 1112064 ∧ (∀ n, s.f0 ≤ n → n < s.f1 → inB (spansS a) n = inB (spansS a) s.f0 ∧ inB (spansS b) n = inB (spansS b) s.f0) ∧ (inB (spansS a) s.f0 || inB (spansS b) s.f0) = true)
    (hend : Ev (fun k => gobolaw5_RunesCells.l0 k a b (S.map rgS) (S.map rgS) (S.length : Int)) true) (d : Nat) : ∀ i : Nat, i ≤ S.length → S.length - i = d → Ev (fun k => gobolaw5_RunesCells.l0 k a b (S.map rgS) ((S.take i).map rgS) (i : Int)) true := by
  induction d with
  | zero =>
    intro i h1 h2
    obtain rfl : i = S.length := by omega
    rw [List.take_length]
    exact hend
  | succ d ih =>
    intro i h1 h2
    have hi : i < S.length := by omega
    have him : i < (S.map rgS).length := by rw [List.length_map]; exact hi
    have e1 := wsucc (i := i) (by omega)
    have hn := ih (i + 1) (by omega) (by omega)
    have hm := List.getElem_mem hi
    have htake := List.take_succ_eq_append_getElem hi
    have hrd := rd_rg (S.map rgS) i him
    rw [List.getElem_map] at hrd
    have hone : ((S.map rgS).take (i + 1)).drop i = [rgS S[i]] := by
      rw [List.take_succ_eq_append_getElem him, List.drop_append_of_le_length (by rw [List.length_take]; omega), List.drop_of_length_le (by rw [List.length_take]; omega), List.getElem_map]
      rfl
    obtain ⟨s, hse⟩ : ∃ s, S[i] = s := ⟨_, rfl⟩
    rw [hse] at hm htake hrd hone
    obtain ⟨s0, s1, s2, s3, s4⟩ := hs s hm
    obtain ⟨o1, o2⟩ := one_val s0 s1 s2
    rw [htake, List.map_append] at hn
    have hcy : Ev (fun k => runes_Count.f k [rgS s]) (s.f1 - s.f0) := ev_from 1 (fun k hk => by
      rw [count_f _ o1 k (by simpa using hk), o2]
      simp [sumS])
    obtain ⟨x, x1, _⟩ := cell_and ha la s0 s1 s2 (fun n p q => (s3 n p q).1) 201 (by omega)
    obtain ⟨y, y1, _⟩ := cell_and hb lb s0 s1 s2 (fun n p q => (s3 n p q).2) 201 (by omega)
    have hx : Ev (fun k => runes_Count.f k x) (if inB (spansS a) s.f0 = true then s.f1 - s.f0 else 0) := ev_at (fun n h => by
      obtain ⟨x', e1', e2'⟩ := cell_and ha la s0 s1 s2 (fun n p q => (s3 n p q).1) n h
      rw [x1] at e1'
      obtain rfl := Option.some.inj e1'
      exact e2')
    have hy : Ev (fun k => runes_Count.f k y) (if inB (spansS b) s.f0 = true then s.f1 - s.f0 else 0) := ev_at (fun n h => by
      obtain ⟨x', e1', e2'⟩ := cell_and hb lb s0 s1 s2 (fun n p q => (s3 n p q).2) n h
      rw [y1] at e1'
      obtain rfl := Option.some.inj e1'
      exact e2')
    have hl : ((S.take i).map rgS).length < 17592186044416 := by rw [List.length_map, List.length_take]; omega
    have hgo : Ev (fun k => if ((S.take i).map rgS).length < 17592186044416 then gobolaw5_RunesCells.l0 k a b (S.map rgS) ((S.take i).map rgS ++ [(⟨(rgS s).f0, (rgS s).f1⟩ : Rg)]) ((i + 1 : Nat) : Int) else none) true := ev_if hl hn
    refine Ev.step (f := _) (fun k => by
      simp only [gobolaw5_RunesCells.l0]
      rw [if_pos (by omega), if_pos (by omega), e1, if_pos (by omega), if_pos (by omega), Int.toNat_natCast, Int.toNat_natCast, hone, hrd]) ?_
    refine Ev.bind (ev_some (r := [rgS s]) rfl) (Ev.bind (ev_some x1) (Ev.bind (ev_some y1) (Ev.bind hcy (Ev.bind hx ?_))))
    generalize inB (spansS a) s.f0 = ga at *
    generalize inB (spansS b) s.f0 = gb at *
    have hz : ¬ (s.f1 - s.f0 = 0) := by omega
    cases ga
    · cases gb
      · cases s4
      · rw [if_neg (by decide)] at hx ⊢
        rw [if_pos rfl] at hy
        refine ev_if rfl (Ev.bind hy (ev_else hz (Ev.bind hy (ev_if rfl (ev_else hz (Ev.bind hx (Ev.bind hy (ev_else ?_ hgo))))))))
        unfold wrap64
        omega
    · cases gb
      · rw [if_pos rfl] at hx ⊢
        rw [if_neg (by decide)] at hy
        refine ev_else hz (Ev.bind hx (ev_if rfl (Ev.bind hy (ev_if rfl (ev_else hz (Ev.bind hx (Ev.bind hy (ev_else ?_ hgo))))))))
        unfold wrap64
        omega
      · rw [if_pos rfl] at hx hy ⊢
        refine ev_else hz (Ev.bind hx (ev_if rfl (Ev.bind hy (ev_else hz (Ev.bind hy (ev_if rfl (ev_else hz (Ev.bind hx (Ev.bind hy (ev_else ?_ hgo))))))))))
        unfold wrap64
        omega
theorem cells_in (a b : List Rg) (ha : okR a = true) (hb : okR b = true) (la : a.length ≤ 30) (lb : b.length ≤ 30) : Ev (fun k => gobolaw5_RunesCells.j0 k a b false) true := by
  have happ := okR_append ha hb (by omega)
  have hok : ∀ l, l ∈ [a, b] → okR l = true := fun l hl => by
    simp only [List.mem_cons, List.not_mem_nil, or_false] at hl
    rcases hl with rfl | rfl
    · exact ha
    · exact hb
  have hfl : [a, b].flatten = a ++ b := by simp
  have hf : okR [a, b].flatten = true := by rw [hfl]; exact happ
  have hC : okC [a, b] = true := by
    unfold okC
    rw [List.all_eq_true.2 hok, hf, hfl, decide_eq_true (show (a ++ b).length ≤ 1000 by rw [List.length_append]; omega), decide_eq_true (show [a, b].length ≤ 1000000 by simp)]
    rfl
  have hp : runes_Cuts.f [a, b] = some (cutsS [a, b]) := by unfold runes_Cuts.f; rw [if_pos hC]
  have hT : [a, b].flatMap spansS = spansS a ++ spansS b := by simp
  obtain ⟨T, hTe⟩ : ∃ T, spansS a ++ spansS b = T := ⟨_, rfl⟩
  obtain ⟨oa, _⟩ := spans_ok ha
  obtain ⟨ob, _⟩ := spans_ok hb
  have oT : okS T := fun x hx => by
    rw [← hTe] at hx
    rcases List.mem_append.1 hx with q | q
    · exact oa x q
    · exact ob x q
  have hb0 : ∀ e, e ∈ insAll (endsL T) [] → 0 ≤ e ∧ e ≤ 1112064 := fun e he => by
    rw [insAll_mem] at he
    rcases he with he | he
    · obtain ⟨x, hx, hxe⟩ := endsL_of e T he
      have := oT x hx
      omega
    · cases he
  have hris := insAll_ris (endsL T) [] (-1) (fun e he => by
    have := hb0 e (by rw [insAll_mem]; exact .inl he)
    omega) trivial
  have hmem : ∀ e, e ∈ insAll (endsL T) [] ↔ e ∈ endsL T := fun e => by rw [insAll_mem]; simp
  have hcl := insAll_len (endsL T) []
  rw [endsL_len, List.length_nil] at hcl
  have lT : T.length ≤ 60 := by
    have := spansS_len a
    have := spansS_len b
    rw [← hTe, List.length_append]
    omega
  have hsame := cuts_same [a, b] hok hf
  rw [hT, hTe] at hsame
  obtain ⟨c, hc⟩ : ∃ c, insAll (endsL T) [] = c := ⟨_, rfl⟩
  rw [hc] at hsame hris hmem hb0 hcl
  obtain ⟨S, hSe⟩ : ∃ S, refP (inB T) c = S := ⟨_, rfl⟩
  have hcut : cutsS [a, b] = S.map rgS := by unfold cutsS; rw [hsame, hSe]
  have hmT : ∀ x, x ∈ T → x.f0 ∈ c ∧ x.f1 ∈ c := fun x hx => ⟨(hmem _).2 (endsL_mem x T hx).1, (hmem _).2 (endsL_mem x T hx).2⟩
  have hmA : ∀ x, x ∈ spansS a → x.f0 ∈ c ∧ x.f1 ∈ c := fun x hx => hmT x (by rw [← hTe]; exact List.mem_append_left _ hx)
  have hmB : ∀ x, x ∈ spansS b → x.f0 ∈ c ∧ x.f1 ∈ c := fun x hx => hmT x (by rw [← hTe]; exact List.mem_append_right _ hx)
  have spec : (∀ x, x ∈ S → Piece c x) ∧ (∃ lo, NFw lo S) ∧ (∀ n, inS S n ↔ inS T n) ∧ S.length ≤ c.length := by
    have hlen : ∀ (f : Int → Bool) (l : List Int), (refP f l).length ≤ l.length := by
      intro f l
      induction l with
      | nil => simp [refP]
      | cons u R ih =>
        cases R with
        | nil => simp [refP]
        | cons v R =>
          unfold refP
          split
          · simp only [List.length_cons] at ih ⊢
            omega
          · simp only [List.length_cons] at ih ⊢
            omega
    cases hcs : c with
    | nil =>
      have hTn : T = [] := by
        cases T with
        | nil => rfl
        | cons x T =>
          have := (hmT x (List.mem_cons_self ..)).1
          rw [hcs] at this
          cases this
      rw [hcs] at hSe
      have hSn : S = [] := by rw [← hSe]; rfl
      rw [hSn, hTn]
      exact ⟨(fun x hx => by cases hx), ⟨0, trivial⟩, fun n => Iff.rfl, by simp⟩
    | cons u R =>
      obtain ⟨r1, r2, r3⟩ := refP_spec T (u :: R) (fun x hx => by rw [← hcs]; exact hmT x hx) R u (-1) (by rw [← hcs]; exact hris) (fun _ q => q) (fun e he => by
        rcases List.mem_cons.1 he with rfl | q
        · exact .inl (Int.le_refl _)
        · exact .inr q)
      have hl2 := hlen (inB T) (u :: R)
      rw [hcs] at hSe
      rw [hSe] at r1 r2 r3 hl2
      refine ⟨r2, ⟨u, r1⟩, fun n => ?_, hl2⟩
      rw [r3]
      constructor
      · exact fun q => q.2
      · intro q
        refine ⟨?_, q⟩
        obtain ⟨x, hx, h1, h2⟩ := q
        have h1' : x.f0 ≤ n := h1
        have hx0 := (hmT x hx).1
        rw [hcs] at hx0 hris
        rcases List.mem_cons.1 hx0 with e | e
        · omega
        · have := ris_mem hris.2 _ e
          omega
  obtain ⟨p1, ⟨lo, p2⟩, p3, p4⟩ := spec
  have hlt : ∀ (S : List Sp) (lo : Int), NFw lo S → ∀ x, x ∈ S → x.f0 < x.f1 := by
    intro S
    induction S with
    | nil => intro lo _ x hx; cases hx
    | cons y S ih =>
      intro lo hn x hx
      rcases List.mem_cons.1 hx with rfl | hx
      · exact hn.2.1
      · exact ih y.f1 hn.2.2 x hx
  have oS : okS S := fun x hx => by
    obtain ⟨q0, q1, _⟩ := p1 x hx
    have := hb0 _ q0
    have := hb0 _ q1
    have := hlt S lo p2 x hx
    omega
  have okSm : okR (S.map rgS) = true := okR_rg oS (by omega)
  have hhas : ∀ o, hasS (S.map rgS) o = hasS (a ++ b) o := fun o => by
    cases ho : isS o
    · rw [has_isS ho, has_isS ho]
    · rw [Bool.eq_iff_iff, has_rg oS ho, p3, has_append, Bool.or_eq_true, has_raw ha ho, has_raw hb ho, ← in_spans ha, ← in_spans hb, ← hTe, inS_append]
  have hnorm : normS (S.map rgS) = normS (a ++ b) := NFl_ext (NFl_norm okSm) (NFl_norm happ) (fun o => by rw [has_norm okSm, has_norm happ, hhas])
  have nO := norm_len (a ++ b)
  rw [List.length_append] at nO
  have okO := okR_norm happ
  have hend : Ev (fun k => gobolaw5_RunesCells.l0 k a b (S.map rgS) (S.map rgS) (S.length : Int)) true := by
    have hcnt : sumS (spansS (S.map rgS)) = sumS (spansS (normS (a ++ b))) := by
      rw [count_has okSm, count_has okO]
      exact cnt_congr 1112064 (fun i _ _ => by rw [has_norm happ, hhas])
    refine Ev.step (f := _) (fun k => by simp only [gobolaw5_RunesCells.l0]; rw [if_neg (by rw [List.length_map]; omega)]) ?_
    refine Ev.bind (ev_some (r := true) rfl) (ev_if rfl ?_)
    refine Ev.bind (ev_from S.length (fun n hn => norm_fk _ okSm n (by rw [List.length_map]; exact hn))) (Ev.bind (ev_some (or_f happ)) ?_)
    rw [hnorm]
    refine Ev.bind (ev_at (fun n hn => same_rfl (by omega) n hn)) (ev_if rfl ?_)
    refine Ev.bind (ev_from S.length (fun n hn => count_f _ okSm n (by rw [List.length_map]; exact hn))) (Ev.bind (ev_some (or_f happ)) (Ev.bind (ev_from (normS (a ++ b)).length (fun n hn => count_f _ okO n hn)) ?_))
    rw [hcnt]
    exact ev_some (by simp)
  have hloop := cells_law_l a b ha hb la lb S (by omega) (fun s hs => by
    obtain ⟨q0, q1, q2⟩ := p1 s hs
    obtain ⟨o0, o1, o2⟩ := oS s hs
    refine ⟨o0, o1, o2, fun n n0 n1 => ⟨inB_const hmA q2 n0 n1, inB_const hmB q2 n0 n1⟩, ?_⟩
    have hin := (p3 s.f0).1 ⟨s, hs, Int.le_refl _, o1⟩
    rw [← hTe, inS_append, ← inB_iff, ← inB_iff] at hin
    rw [Bool.or_eq_true]
    exact hin) hend S.length 0 (by omega) (by omega)
  refine Ev.step (f := _) (fun k => by simp only [gobolaw5_RunesCells.j0]; rw [if_neg (by decide), hp, Option.bind_some, hcut]; rfl) hloop
theorem cells_law (l m : List Rg) (h : rgOk l = true) (k : rgOk m = true) : ∃ n, gobolaw5_RunesCells.f n l m = some true := by
  refine Ev.rounds ?_
  unfold gobolaw5_RunesCells.f
  have hj : Ev (fun n => gobolaw5_RunesCells.j0 n l m true) true := by
    refine Ev.step (f := fun _ => some true) (fun n => ?_) (Ev.now _)
    simp only [gobolaw5_RunesCells.j0]
    rfl
  refine Ev.bind (ev_some (r := decide ((l.length : Int) ≤ 30)) rfl) ?_
  by_cases c1 : (l.length : Int) ≤ 30
  · refine ev_if (decide_eq_true c1) (Ev.bind (ev_some (r := decide ((m.length : Int) ≤ 30)) rfl) ?_)
    by_cases c2 : (m.length : Int) ≤ 30
    · rw [decide_eq_true c2]
      exact cells_in l m (okR_of h (by omega)) (okR_of k (by omega)) (by omega) (by omega)
    · rw [decide_eq_false c2]
      exact hj
  · exact ev_else (by rw [decide_eq_false c1]; decide) hj
end Go.Proofs.Ytmmdnjooddhhoaa.Rn
