/- the document's side of runes in plain words: places, cells, in, cuts. -/
import Derived.Test.YtmmdnjooddhhoaaRpI
import Derived.Test.YtmmdnjooddhhoaaRnCa
import Derived.Test.YtmmdnjooddhhoaaRnW
set_option linter.unusedVariables false
set_option linter.unusedSimpArgs false
namespace Go.Proofs.Ytmmdnjooddhhoaa.Rn
open Go Go.RowKit Go.Proofs.YtmmdnjooddhhoaaW.PrintWords Go.Proofs.YtmmdnjooddhhoaaW.PrintLast Go.Proofs.YtmmdnjooddhhoaaW.PrintMore
abbrev Ce := S53
/-- a span as a cell of the document's -/
def cl (x : Sp) : Ce := ⟨x.f0, x.f1⟩
theorem rd_ce (l : List Ce) (i : Nat) (hi : i < l.length) : rd_T53 l (i : Int) = l[i] := by
  unfold rd_T53
  rw [Int.toNat_natCast, List.getD_eq_getElem?_getD, List.getElem?_eq_getElem hi]
  rfl
theorem rd_nat (l : List Int) (i : Nat) (hi : i < l.length) : rd l (i : Int) = l[i] := by
  unfold rd
  rw [Int.toNat_natCast, List.getD_eq_getElem?_getD, List.getElem?_eq_getElem hi]
  rfl
theorem wsucc {i : Nat} (h : i ≤ 100000000) : wrap64 ((i : Int) + 1) = ((i + 1 : Nat) : Int) := by unfold wrap64; omega
theorem w64_32 {a : Int} (h0 : -2147483648 ≤ a) (h1 : a < 2147483648) : wrap64 a = a := by unfold wrap64; omega
theorem place_up {r : Int} (b0 : -2147483648 ≤ r) (h : r ≤ 1114111) : Ev (fun k => goboref3_place.f k r true) (numS r) := by
  refine Ev.step (f := fun _ => some (numS r)) (fun k => ?_) (Ev.now _)
  rw [num_is b0 (by omega)]
  unfold goboref3_place.f
  by_cases c1 : r < 0
  · simp [c1]
  by_cases c2 : r < 55296
  · simp [c1, c2]
  by_cases c3 : r ≤ 57343
  · simp [c1, c2, c3, goboref3_place.j0]
  · simp only [if_neg c1, if_neg c2, if_neg c3, goboref3_place.j0]
    rw [if_neg (by decide), if_neg (by omega), if_pos (by omega)]
    unfold wrap64
    congr 1
    omega
theorem place_dn {r : Int} (h : 0 ≤ r) (b1 : r < 2147483648) : Ev (fun k => goboref3_place.f k r false) (behS r - 1) := by
  refine Ev.step (f := fun _ => some (behS r - 1)) (fun k => ?_) (Ev.now _)
  have hs := isS_iff r
  rw [beh_is (by omega) b1, num_is (by omega) b1]
  unfold goboref3_place.f
  rw [if_neg (by omega), if_neg (show ¬ r < 0 by omega)]
  by_cases c2 : r < 55296
  · rw [if_pos c2, if_pos c2, if_pos (hs.2 (.inl ⟨h, c2⟩))]
    congr 1
    omega
  rw [if_neg c2, if_neg c2]
  by_cases c3 : r ≤ 57343
  · rw [if_pos c3, if_pos c3, if_neg (fun e => by have := hs.1 e; omega)]
    simp only [goboref3_place.j0]
    rw [if_neg (by decide), if_pos c3]
    rfl
  rw [if_neg c3, if_neg c3]
  simp only [goboref3_place.j0]
  rw [if_neg (by decide), if_neg c3]
  by_cases c4 : r > 1114111
  · have hf : isS r = false := by
      cases e : isS r
      · rfl
      · have := hs.1 e
        omega
    have e0 : (if (false : Bool) = true then (1 : Int) else 0) = 0 := rfl
    rw [if_pos c4, if_neg (by decide), hf, e0]
    congr 1
    split <;> omega
  · rw [if_neg c4, if_pos (hs.2 (.inr ⟨by omega, by omega⟩)), if_pos (by omega)]
    unfold wrap64
    congr 1
    omega
theorem num_top {r : Int} (b1 : r < 2147483648) (h : 1114111 < r) : numS r = 1112064 := by
  rw [num_is (by omega) b1]
  repeat' split
  all_goals omega
theorem beh_top {r : Int} (b0 : -2147483648 ≤ r) (b1 : r < 2147483648) : behS r ≤ 1112064 := by
  have hs := isS_iff r
  rw [beh_is b0 b1, num_is b0 b1]
  have e0 : (if (false : Bool) = true then (1 : Int) else 0) = 0 := rfl
  have e1 : (if (true : Bool) = true then (1 : Int) else 0) = 1 := rfl
  cases h : isS r
  · rw [e0]
    clear hs e0 e1 h
    repeat' split
    all_goals omega
  · rw [e1]
    have := hs.1 h
    clear hs e0 e1 h
    repeat' split
    all_goals omega
theorem beh_neg {r : Int} (b0 : -2147483648 ≤ r) (h : r < 0) : behS r = 0 := by
  have hs := isS_iff r
  rw [beh_is b0 (by omega), num_is b0 (by omega), if_pos h, if_neg (fun e => by have := hs.1 e; omega)]
  rfl
theorem keep_no {x : Rg} (h : ¬ (x.f0 ≤ x.f1 ∧ numS x.f0 < behS x.f1)) : keepS x = [] := by
  unfold keepS
  rw [if_neg h]
theorem cells_l (l : List Rg) (h : okR l = true) (hl : l.length ≤ 1000000) (d : Nat) : ∀ (i : Nat) (acc : List Ce), i ≤ l.length → l.length - i = d → acc.length ≤ i → Ev (fun k => goboref3_cells.l0 k l acc (i : Int)) (acc ++ (rawS (l.drop i)).map cl) := by
  induction d with
  | zero =>
    intro i acc h1 h2 _
    refine Ev.step (f := fun _ => some acc) (fun k => ?_) ?_
    · simp only [goboref3_cells.l0]
      rw [if_neg (by omega)]
    · rw [List.drop_of_length_le (by omega)]
      simp only [rawS, List.flatMap_nil, List.map_nil, List.append_nil]
      exact Ev.now _
  | succ d ih =>
    intro i acc h1 h2 ha
    have hi : i < l.length := by omega
    have e2 := wsucc (i := i) (by omega)
    have hx := okR_at' h (List.getElem_mem hi)
    have hdrop : rawS (l.drop i) = keepS l[i] ++ rawS (l.drop (i + 1)) := by
      rw [List.drop_eq_getElem_cons hi]
      rfl
    have hrd := rd_rg l i hi
    obtain ⟨x, hxe⟩ : ∃ x, l[i] = x := ⟨_, rfl⟩
    rw [hxe] at hx hdrop hrd
    obtain ⟨b0, b1, b2, b3⟩ := hx
    have skip : keepS x = [] → Ev (fun k => goboref3_cells.j1 k l acc (i : Int) true) (acc ++ (rawS (l.drop i)).map cl) := fun hk => by
      refine Ev.step (f := fun k => goboref3_cells.l0 k l acc ((i + 1 : Nat) : Int)) (fun k => ?_) ?_
      · simp only [goboref3_cells.j1]
        rw [if_pos trivial, e2]
      · rw [hdrop, hk, List.nil_append]
        exact ih (i + 1) acc (by omega) (by omega) (by omega)
    by_cases c1 : x.f0 > x.f1
    · refine Ev.step (f := fun k => goboref3_cells.j1 k l acc (i : Int) true) (fun k => ?_) (skip (keep_no (by omega)))
      simp only [goboref3_cells.l0]
      rw [if_pos (by omega), if_pos (by omega), hrd, if_pos c1]
    by_cases c2 : x.f1 < 0
    · refine Ev.step (f := fun k => goboref3_cells.j1 k l acc (i : Int) true) (fun k => ?_) (skip (keep_no (by rw [beh_neg b2 c2]; have := num_nonneg b0 b1; omega)))
      simp only [goboref3_cells.l0]
      rw [if_pos (by omega), if_pos (by omega), hrd, if_neg c1, if_pos c2]
    by_cases c3 : x.f0 > 1114111
    · refine Ev.step (f := fun k => goboref3_cells.j1 k l acc (i : Int) true) (fun k => ?_) (skip (keep_no (by rw [num_top b1 c3]; have := beh_top b2 b3; omega)))
      simp only [goboref3_cells.l0]
      rw [if_pos (by omega), if_pos (by omega), hrd, if_neg c1, if_neg c2, decide_eq_true c3]
    · refine Ev.step (f := fun k => goboref3_cells.j1 k l acc (i : Int) false) (fun k => ?_) ?_
      · simp only [goboref3_cells.l0]
        rw [if_pos (by omega), if_pos (by omega), hrd, if_neg c1, if_neg c2, decide_eq_false c3]
      have hw0 := w64_32 b0 b1
      have hw1 := w64_32 b2 b3
      have hw2 : wrap64 (behS x.f1 - 1 + 1) = behS x.f1 := by
        have q0 := beh_top b2 b3
        have q1 := num_nonneg b2 b3
        have q2 := beh_is b2 b3
        unfold wrap64
        split at q2 <;> omega
      refine Ev.step (f := fun k => (goboref3_place.f k x.f0 true).bind fun t => (goboref3_place.f k x.f1 false).bind fun u => if t < wrap64 (u + 1) then (if acc.length < 8796093022208 then goboref3_cells.l0 k l (acc ++ [(⟨t, wrap64 (u + 1)⟩ : Ce)]) ((i + 1 : Nat) : Int) else none) else goboref3_cells.l0 k l acc ((i + 1 : Nat) : Int)) (fun k => ?_) ?_
      · simp only [goboref3_cells.j1]
        rw [if_neg (by decide), if_pos (by omega), if_pos (by omega), hrd, e2, hw0, hw1]
      refine Ev.bind (place_up b0 (by omega)) (Ev.bind (place_dn (by omega) b3) ?_)
      rw [hw2]
      by_cases c4 : numS x.f0 < behS x.f1
      · refine Ev.congr (f := fun k => goboref3_cells.l0 k l (acc ++ [(⟨numS x.f0, behS x.f1⟩ : Ce)]) ((i + 1 : Nat) : Int)) (fun k => by rw [if_pos c4, if_pos (by omega)]) ?_
        have hk : keepS x = [⟨numS x.f0, behS x.f1⟩] := by unfold keepS; rw [if_pos ⟨by omega, c4⟩]
        rw [hdrop, hk]
        have := ih (i + 1) (acc ++ [(⟨numS x.f0, behS x.f1⟩ : Ce)]) (by omega) (by omega) (by simp; omega)
        rw [List.append_assoc] at this
        exact this
      · refine Ev.congr (f := fun k => goboref3_cells.l0 k l acc ((i + 1 : Nat) : Int)) (fun k => by rw [if_neg c4]) ?_
        rw [hdrop, keep_no (fun q => c4 q.2), List.nil_append]
        exact ih (i + 1) acc (by omega) (by omega) (by omega)
theorem cells_ev (l : List Rg) (h : okR l = true) : Ev (fun k => goboref3_cells.f k l) ((rawS l).map cl) :=
  cells_l l h (okR_len h) l.length 0 [] (by omega) (by omega) (by simp)
theorem in_l (L : List Sp) (hL : L.length ≤ 1000000) (p : Int) (d : Nat) : ∀ i : Nat, i ≤ L.length → L.length - i = d → Ev (fun k => goboref3_in.l0 k (L.map cl) p (i : Int)) (inB (L.drop i) p) := by
  induction d with
  | zero =>
    intro i h1 h2
    refine Ev.step (f := fun _ => some false) (fun k => ?_) ?_
    · simp only [goboref3_in.l0]
      rw [if_neg (by rw [List.length_map]; omega)]
    · rw [List.drop_of_length_le (by omega)]
      exact Ev.now _
  | succ d ih =>
    intro i h1 h2
    have hi : i < L.length := by omega
    have e2 := wsucc (i := i) (by omega)
    have hrd := rd_ce (L.map cl) i (by rw [List.length_map]; omega)
    rw [List.getElem_map] at hrd
    have hdrop : inB (L.drop i) p = ((decide (L[i].f0 ≤ p) && decide (p < L[i].f1)) || inB (L.drop (i + 1)) p) := by
      rw [List.drop_eq_getElem_cons hi]
      rfl
    have hn := ih (i + 1) (by omega) (by omega)
    obtain ⟨x, hxe⟩ : ∃ x, L[i] = x := ⟨_, rfl⟩
    rw [hxe] at hdrop hrd
    by_cases c1 : x.f0 ≤ p
    · by_cases c2 : p < x.f1
      · refine Ev.step (f := fun _ => some true) (fun k => ?_) ?_
        · simp only [goboref3_in.l0]
          rw [if_pos (by rw [List.length_map]; omega), if_pos (by omega), hrd, if_pos (show (cl x).f0 ≤ p from c1), if_pos (show p < (cl x).f1 from c2)]
        · rw [hdrop, decide_eq_true c1, decide_eq_true c2]
          exact Ev.now _
      · refine Ev.step (f := fun k => goboref3_in.l0 k (L.map cl) p ((i + 1 : Nat) : Int)) (fun k => ?_) ?_
        · simp only [goboref3_in.l0]
          rw [if_pos (by rw [List.length_map]; omega), if_pos (by omega), hrd, if_pos (show (cl x).f0 ≤ p from c1), if_neg (show ¬ p < (cl x).f1 from c2), e2]
        · rw [hdrop, decide_eq_false c2, Bool.and_false, Bool.false_or]
          exact hn
    · refine Ev.step (f := fun k => goboref3_in.l0 k (L.map cl) p ((i + 1 : Nat) : Int)) (fun k => ?_) ?_
      · simp only [goboref3_in.l0]
        rw [if_pos (by rw [List.length_map]; omega), if_pos (by omega), hrd, if_neg (show ¬ (cl x).f0 ≤ p from c1), e2]
      · rw [hdrop, decide_eq_false c1, Bool.false_and, Bool.false_or]
        exact hn
theorem in_ev (L : List Sp) (hL : L.length ≤ 1000000) (p : Int) : Ev (fun k => goboref3_in.f k (L.map cl) p) (inB L p) := in_l L hL p L.length 0 (by omega) (by omega)
/-- a number among rising ones, once -/
def insD (c : Int) : List Int → List Int
  | [] => [c]
  | x :: xs => if x < c then x :: insD c xs else if x = c then x :: xs else c :: x :: xs
theorem insD_len (c : Int) : ∀ l, (insD c l).length ≤ l.length + 1
  | [] => by simp [insD]
  | x :: xs => by
    have := insD_len c xs
    unfold insD
    repeat' split
    all_goals simp; try omega
def insAll (es out : List Int) : List Int := es.foldl (fun o e => insD e o) out
/-- rising, each once, above a bound -/
def RisB : Int → List Int → Prop
  | _, [] => True
  | lo, x :: r => lo < x ∧ RisB x r
theorem insD_ris (c : Int) : ∀ (l : List Int) (lo : Int), lo < c → RisB lo l → RisB lo (insD c l)
  | [], lo, h, _ => ⟨h, trivial⟩
  | x :: xs, lo, h, hr => by
    unfold insD
    by_cases c1 : x < c
    · rw [if_pos c1]
      exact ⟨hr.1, insD_ris c xs x c1 hr.2⟩
    · rw [if_neg c1]
      by_cases c2 : x = c
      · rw [if_pos c2]
        exact hr
      · rw [if_neg c2]
        exact ⟨h, by omega, hr.2⟩
theorem insD_mem (c z : Int) : ∀ l, z ∈ insD c l ↔ z = c ∨ z ∈ l
  | [] => by simp [insD]
  | x :: xs => by
    have ih := insD_mem c z xs
    unfold insD
    by_cases c1 : x < c
    · rw [if_pos c1]
      simp only [List.mem_cons, ih]
      constructor
      · rintro (h | h | h)
        · exact .inr (.inl h)
        · exact .inl h
        · exact .inr (.inr h)
      · rintro (h | h | h)
        · exact .inr (.inl h)
        · exact .inl h
        · exact .inr (.inr h)
    · rw [if_neg c1]
      by_cases c2 : x = c
      · rw [if_pos c2, c2]
        simp only [List.mem_cons]
        constructor
        · exact .inr
        · rintro (h | h)
          · exact .inl h
          · exact h
      · rw [if_neg c2]
        simp only [List.mem_cons]
theorem insAll_ris : ∀ (es out : List Int) (lo : Int), (∀ e, e ∈ es → lo < e) → RisB lo out → RisB lo (insAll es out)
  | [], out, lo, _, h => h
  | e :: es, out, lo, he, h => insAll_ris es (insD e out) lo (fun x hx => he x (List.mem_cons_of_mem _ hx)) (insD_ris e out lo (he e (List.mem_cons_self ..)) h)
theorem insAll_mem (z : Int) : ∀ (es out : List Int), z ∈ insAll es out ↔ z ∈ es ∨ z ∈ out
  | [], out => by simp [insAll]
  | e :: es, out => by
    have := insAll_mem z es (insD e out)
    show z ∈ insAll es (insD e out) ↔ _
    rw [this, insD_mem, List.mem_cons]
    constructor
    · rintro (h | h | h)
      · exact .inl (.inr h)
      · exact .inl (.inl h)
      · exact .inr h
    · rintro ((h | h) | h)
      · exact .inr (.inl h)
      · exact .inl h
      · exact .inr (.inr h)
theorem cuts_in (C : List Ce) (out : List Int) (i : Nat) (c : Int) (hi : i ≤ 10000000) (ho : out.length ≤ 10000000) (r : List Int) (h : Ev (fun k => goboref3_cuts.l0 k C (insD c out) ((i + 1 : Nat) : Int)) r) (d : Nat) : ∀ j : Nat, j ≤ out.length → out.length - j = d → insD c out = out.take j ++ insD c (out.drop j) → Ev (fun k => goboref3_cuts.l1 k C out (i : Int) c (j : Int)) r := by
  have e1 := wsucc (i := i) (by omega)
  induction d with
  | zero =>
    intro j h1 h2 hj
    refine Ev.step (f := fun k => goboref3_cuts.l0 k C (insD c out) ((i + 1 : Nat) : Int)) (fun k => ?_) h
    simp only [goboref3_cuts.l1]
    rw [if_neg (by omega), hj]
    simp only [Option.bind_some, List.nil_append, Int.toNat_natCast]
    rw [if_pos (by omega), if_pos (by omega), if_pos (by simp; omega), if_pos (by simp; omega), if_pos (by simp; omega), e1, List.drop_of_length_le (show out.length ≤ j by omega)]
    simp [insD]
  | succ d ih =>
    intro j h1 h2 hj
    have hlt : j < out.length := by omega
    have hrd := rd_nat out j hlt
    have e2 := wsucc (i := j) (by omega)
    have hdrop := List.drop_eq_getElem_cons hlt
    have htake := List.take_succ_eq_append_getElem hlt
    obtain ⟨x, hx⟩ : ∃ x, out[j] = x := ⟨_, rfl⟩
    rw [hx] at hrd hdrop htake
    by_cases c1 : x < c
    · refine Ev.step (f := fun k => goboref3_cuts.l1 k C out (i : Int) c ((j + 1 : Nat) : Int)) (fun k => ?_) (ih (j + 1) (by omega) (by omega) ?_)
      · simp only [goboref3_cuts.l1]
        rw [if_pos (by omega), if_pos (by omega), hrd, if_pos c1, e2]
      · rw [hj, hdrop, htake, List.append_assoc]
        rw [insD, if_pos c1]
        rfl
    · by_cases c2 : x = c
      · refine Ev.step (f := fun k => goboref3_cuts.l0 k C (insD c out) ((i + 1 : Nat) : Int)) (fun k => ?_) h
        simp only [goboref3_cuts.l1]
        rw [if_pos (by omega), if_pos (by omega), hrd, if_neg c1, if_pos c2, e1]
        rw [hj, hdrop, insD, if_neg c1, if_pos c2, ← hdrop, List.take_append_drop]
      · refine Ev.step (f := fun k => goboref3_cuts.l0 k C (insD c out) ((i + 1 : Nat) : Int)) (fun k => ?_) h
        simp only [goboref3_cuts.l1]
        rw [if_pos (by omega), if_pos (by omega), hrd, if_neg c1, if_neg c2]
        simp only [Option.bind_some, List.nil_append, Int.toNat_natCast]
        rw [if_pos (by omega), if_pos (by simp; omega), if_pos (by simp; omega), if_pos (by simp; omega), e1]
        rw [hj, hdrop, insD, if_neg c1, if_neg c2, List.append_assoc]
        rfl
theorem insAll_len : ∀ (es out : List Int), (insAll es out).length ≤ out.length + es.length
  | [], out => by simp [insAll]
  | e :: es, out => by
    have h1 := insAll_len es (insD e out)
    have h2 := insD_len e out
    show (insAll es (insD e out)).length ≤ _
    rw [List.length_cons]
    omega
theorem half0 (j : Nat) (h : j ≤ 10000000) : wrap64 (Int.tdiv ((2 * j : Nat) : Int) 2) = (j : Int) := by
  rw [Int.tdiv_eq_ediv_of_nonneg (by omega)]
  unfold wrap64
  omega
theorem half1 (j : Nat) : Int.tmod ((2 * j : Nat) : Int) 2 = 0 := by
  rw [Int.tmod_eq_emod_of_nonneg (by omega)]
  omega
theorem half2 (j : Nat) (h : j ≤ 10000000) : wrap64 (Int.tdiv ((2 * j + 1 : Nat) : Int) 2) = (j : Int) := by
  rw [Int.tdiv_eq_ediv_of_nonneg (by omega)]
  unfold wrap64
  omega
theorem half3 (j : Nat) : Int.tmod ((2 * j + 1 : Nat) : Int) 2 = 1 := by
  rw [Int.tmod_eq_emod_of_nonneg (by omega)]
  omega
theorem cuts_l (L : List Sp) (hL : L.length ≤ 1000000) (d : Nat) : ∀ (j : Nat) (out : List Int), j ≤ L.length → L.length - j = d → out.length ≤ 2 * j → Ev (fun k => goboref3_cuts.l0 k (L.map cl) out ((2 * j : Nat) : Int)) (insAll (endsL (L.drop j)) out) := by
  have eL : wrap64 (2 * ((L.map cl).length : Int)) = 2 * (L.length : Int) := by rw [List.length_map]; unfold wrap64; omega
  induction d with
  | zero =>
    intro j out h1 h2 _
    refine Ev.step (f := fun _ => some out) (fun k => ?_) ?_
    · simp only [goboref3_cuts.l0]
      rw [eL, if_neg (by omega)]
    · rw [List.drop_of_length_le (by omega)]
      exact Ev.now _
  | succ d ih =>
    intro j out h1 h2 ho
    have hj : j < L.length := by omega
    have hrd := rd_ce (L.map cl) j (by rw [List.length_map]; omega)
    rw [List.getElem_map] at hrd
    have hdrop : endsL (L.drop j) = L[j].f0 :: L[j].f1 :: endsL (L.drop (j + 1)) := by
      rw [List.drop_eq_getElem_cons hj]
      rfl
    obtain ⟨x, hx⟩ : ∃ x, L[j] = x := ⟨_, rfl⟩
    rw [hx] at hrd hdrop
    have l1 := insD_len x.f0 out
    have l2 := insD_len x.f1 (insD x.f0 out)
    have hn := ih (j + 1) (insD x.f1 (insD x.f0 out)) (by omega) (by omega) (by omega)
    have p0 : ((2 * j : Nat) : Int) < 2 * (L.length : Int) := by omega
    have p1 : ((2 * j + 1 : Nat) : Int) < 2 * (L.length : Int) := by omega
    have p2 : (0 : Int) ≤ (j : Int) := by omega
    have p3 : (j : Int) < ((L.map cl).length : Int) := by rw [List.length_map]; omega
    have p4 : 2 * j ≤ 10000000 := by omega
    have p5 : 2 * j + 1 ≤ 10000000 := by omega
    have p6 : out.length ≤ 10000000 := by omega
    have p7 : (insD x.f0 out).length ≤ 10000000 := by omega
    have q0 := half0 j (by omega)
    have q1 := half1 j
    have q2 := half2 j (by omega)
    have q3 := half3 j
    rw [hdrop]
    refine Ev.step (f := fun k => goboref3_cuts.j1 k (L.map cl) out ((2 * j : Nat) : Int) x.f0) (fun k => ?_) ?_
    · simp only [goboref3_cuts.l0]
      rw [eL, if_pos p0, q0, if_pos p2, if_pos p3, q1, if_neg (by decide), hrd]
      rfl
    refine Ev.step (f := fun k => goboref3_cuts.l1 k (L.map cl) out ((2 * j : Nat) : Int) x.f0 ((0 : Nat) : Int)) (fun k => by simp only [goboref3_cuts.j1]; rfl) ?_
    refine cuts_in (L.map cl) out (2 * j) x.f0 p4 p6 _ ?_ _ 0 (Nat.zero_le _) rfl rfl
    refine Ev.step (f := fun k => goboref3_cuts.j1 k (L.map cl) (insD x.f0 out) ((2 * j + 1 : Nat) : Int) x.f1) (fun k => ?_) ?_
    · simp only [goboref3_cuts.l0]
      rw [eL, if_pos p1, q2, if_pos p2, if_pos p3, q3, if_pos rfl, hrd]
      rfl
    refine Ev.step (f := fun k => goboref3_cuts.l1 k (L.map cl) (insD x.f0 out) ((2 * j + 1 : Nat) : Int) x.f1 ((0 : Nat) : Int)) (fun k => by simp only [goboref3_cuts.j1]; rfl) ?_
    exact cuts_in (L.map cl) (insD x.f0 out) (2 * j + 1) x.f1 p5 p7 _ hn _ 0 (Nat.zero_le _) rfl rfl
theorem cuts_ev (L : List Sp) (hL : L.length ≤ 1000000) : Ev (fun k => goboref3_cuts.f k (L.map cl)) (insAll (endsL L) []) := cuts_l L hL L.length 0 [] (by omega) (by omega) (by simp)
end Go.Proofs.Ytmmdnjooddhhoaa.Rn
