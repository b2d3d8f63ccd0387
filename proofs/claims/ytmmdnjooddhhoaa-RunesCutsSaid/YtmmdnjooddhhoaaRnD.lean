/- the document's side of runes in plain words: pick, and what is made of it. -/
import Derived.Test.YtmmdnjooddhhoaaRnB
set_option linter.unusedVariables false
set_option linter.unusedSimpArgs false
namespace Go.Proofs.Ytmmdnjooddhhoaa.Rn
open Go Go.RowKit Go.Proofs.YtmmdnjooddhhoaaW.PrintWords Go.Proofs.YtmmdnjooddhhoaaW.PrintLast Go.Proofs.YtmmdnjooddhhoaaW.PrintMore
theorem ris_mem : ∀ {l : List Int} {lo : Int}, RisB lo l → ∀ e, e ∈ l → lo < e
  | x :: r, lo, h, e, he => by
    rcases List.mem_cons.1 he with rfl | he
    · exact h.1
    · have := ris_mem h.2 e he
      have := h.1
      omega
theorem ris_gap : ∀ {c : List Int} {lo : Int}, RisB lo c → ∀ (i : Nat) (u v : Int) (R : List Int), c.drop i = u :: v :: R → u < v ∧ ∀ e, e ∈ c → e ≤ u ∨ v ≤ e
  | [], lo, _, i, u, v, R, h => by simp at h
  | x :: c, lo, hr, 0, u, v, R, h => by
    have h0 : x :: c = u :: v :: R := h
    injection h0 with h1 h2
    subst h1
    subst h2
    refine ⟨hr.2.1, fun e he => ?_⟩
    rcases List.mem_cons.1 he with rfl | he
    · exact .inl (Int.le_refl _)
    · rcases List.mem_cons.1 he with rfl | he
      · exact .inr (Int.le_refl _)
      · have := ris_mem hr.2.2 e he
        exact .inr (by omega)
  | x :: c, lo, hr, i + 1, u, v, R, h => by
    have h0 : c.drop i = u :: v :: R := h
    obtain ⟨h1, h2⟩ := ris_gap hr.2 i u v R h0
    refine ⟨h1, fun e he => ?_⟩
    rcases List.mem_cons.1 he with rfl | he
    · have hu : u ∈ c := List.mem_of_mem_drop (by rw [h0]; exact List.mem_cons_self ..)
      have := ris_mem hr.2 u hu
      exact .inl (by omega)
    · exact h2 e he
theorem ris_last : ∀ {c : List Int} {lo : Int}, RisB lo c → ∀ (i : Nat) (u : Int), c.drop i = [u] → ∀ e, e ∈ c → e ≤ u
  | [], lo, _, i, u, h, e, he => by cases he
  | x :: c, lo, hr, 0, u, h, e, he => by
    have h0 : x :: c = [u] := h
    rw [h0] at he
    obtain rfl := List.mem_singleton.1 he
    exact Int.le_refl _
  | x :: c, lo, hr, i + 1, u, h, e, he => by
    have h0 : c.drop i = [u] := h
    rcases List.mem_cons.1 he with rfl | he
    · have hu : u ∈ c := List.mem_of_mem_drop (by rw [h0]; exact List.mem_cons_self ..)
      have := ris_mem hr.2 u hu
      omega
    · exact ris_last hr.2 i u h0 e he
theorem drop_rd {c : List Int} {i : Nat} {u : Int} {R : List Int} (h : c.drop i = u :: R) : i < c.length ∧ rd c (i : Int) = u ∧ c.length = i + 1 + R.length ∧ c.drop (i + 1) = R := by
  have hl := congrArg List.length h
  rw [List.length_drop, List.length_cons] at hl
  have hi : i < c.length := by omega
  have h2 := List.drop_eq_getElem_cons hi
  rw [h] at h2
  injection h2 with h3 h4
  exact ⟨hi, by rw [rd_nat c i hi, h3], by omega, h4.symm⟩
theorem at_val {p : Int} (h0 : 0 ≤ p) (h1 : p < 1112064) : goboref3_at.f p = some (valS p) := by
  rw [val_is h0 h1]
  unfold goboref3_at.f
  by_cases c : p < 55296
  · rw [if_neg (by omega), if_pos c]
    congr 1
    unfold wrap32
    omega
  · rw [if_pos (by omega), if_neg c]
    congr 1
    unfold wrap32 wrap64
    omega
structure Inv (G : Int → Bool) (u : Int) (O : List Sp) (opn : Bool) : Prop where
  ok : okS O
  nf : NFb (-1) O
  mem : ∀ n, inS O n ↔ 0 ≤ n ∧ n < u ∧ G n = true
  le : ∀ y, y ∈ O → y.f1 ≤ u
  yes : opn = true → ∃ P y, O = P ++ [y] ∧ y.f1 = u
  no : opn = false → ∀ y, y ∈ O → y.f1 < u
theorem nf_snoc {O : List Sp} {x : Sp} (h : NFb (-1) O) (h0 : ∀ y, y ∈ O → y.f1 < x.f0) (h1 : 0 ≤ x.f0) (h2 : x.f0 < x.f1) : NFb (-1) (O ++ [x]) := by
  rcases List.eq_nil_or_concat O with rfl | ⟨P, y, rfl⟩
  · exact ⟨by show -1 < x.f0; omega, h2, trivial⟩
  · rw [List.concat_eq_append] at *
    exact NFb_snoc h (h0 y (by simp)) h2
theorem Inv.skip {G : Int → Bool} {u v : Int} {O : List Sp} {opn : Bool} (h : Inv G u O opn) (huv : u < v) (hG : ∀ n, u ≤ n → n < v → G n = false) : Inv G v O false where
  ok := h.ok
  nf := h.nf
  mem := fun n => by
    rw [h.mem]
    constructor
    · rintro ⟨a, b, c⟩
      exact ⟨a, by omega, c⟩
    · rintro ⟨a, b, c⟩
      by_cases d : n < u
      · exact ⟨a, d, c⟩
      · rw [hG n (by omega) b] at c
        cases c
  le := fun y hy => by have := h.le y hy; omega
  yes := fun e => by cases e
  no := fun _ y hy => by have := h.le y hy; omega
theorem Inv.fresh {G : Int → Bool} {u v : Int} {O : List Sp} (h : Inv G u O false) (h0 : 0 ≤ u) (huv : u < v) (hv : v ≤ 1112064) (hG : ∀ n, u ≤ n → n < v → G n = true) : Inv G v (O ++ [⟨u, v⟩]) true where
  ok := fun y hy => by
    rcases List.mem_append.1 hy with hy | hy
    · exact h.ok y hy
    · obtain rfl := List.mem_singleton.1 hy
      exact ⟨h0, huv, hv⟩
  nf := nf_snoc h.nf (h.no rfl) h0 huv
  mem := fun n => by
    rw [inS_append, h.mem, inS_cons]
    have hn := inS_nil n
    show _ ∨ ((u ≤ n ∧ n < v) ∨ _) ↔ _
    constructor
    · rintro (⟨a, b, c⟩ | ⟨a, b⟩ | a)
      · exact ⟨a, by omega, c⟩
      · exact ⟨by omega, b, hG n a b⟩
      · exact absurd a hn
    · rintro ⟨a, b, c⟩
      by_cases d : n < u
      · exact .inl ⟨a, d, c⟩
      · exact .inr (.inl ⟨by omega, b⟩)
  le := fun y hy => by
    rcases List.mem_append.1 hy with hy | hy
    · have := h.le y hy
      omega
    · obtain rfl := List.mem_singleton.1 hy
      exact Int.le_refl _
  yes := fun _ => ⟨O, _, rfl, rfl⟩
  no := fun e => by cases e
theorem Inv.more {G : Int → Bool} {u v : Int} {P : List Sp} {y : Sp} (h : Inv G u (P ++ [y]) true) (hy : y.f1 = u) (huv : u < v) (hv : v ≤ 1112064) (hG : ∀ n, u ≤ n → n < v → G n = true) : Inv G v (P ++ [⟨y.f0, v⟩]) true where
  ok := fun z hz => by
    rcases List.mem_append.1 hz with hz | hz
    · exact h.ok z (List.mem_append_left _ hz)
    · obtain rfl := List.mem_singleton.1 hz
      obtain ⟨a, b, c⟩ := h.ok y (by simp)
      exact ⟨a, by show y.f0 < v; omega, hv⟩
  nf := NFb_last h.nf (by obtain ⟨a, b, c⟩ := h.ok y (by simp); show y.f0 < v; omega)
  mem := fun n => by
    have hm := h.mem n
    have hn := inS_nil n
    obtain ⟨y0, y1, y2⟩ := h.ok y (by simp)
    rw [inS_append, inS_cons] at hm
    rw [inS_append, inS_cons]
    have hm' : inS P n ∨ ((y.f0 ≤ n ∧ n < y.f1) ∨ inS [] n) ↔ 0 ≤ n ∧ n < u ∧ G n = true := hm
    show inS P n ∨ ((y.f0 ≤ n ∧ n < v) ∨ inS [] n) ↔ _
    constructor
    · rintro (a | ⟨a, b⟩ | a)
      · obtain ⟨p, q, r⟩ := hm'.1 (.inl a)
        exact ⟨p, by omega, r⟩
      · by_cases d : n < u
        · obtain ⟨p, q, r⟩ := hm'.1 (.inr (.inl ⟨a, by omega⟩))
          exact ⟨p, by omega, r⟩
        · exact ⟨by omega, b, hG n (by omega) b⟩
      · exact absurd a hn
    · rintro ⟨a, b, c⟩
      by_cases d : n < u
      · rcases hm'.2 ⟨a, d, c⟩ with e | ⟨e, f⟩ | e
        · exact .inl e
        · exact .inr (.inl ⟨e, by omega⟩)
        · exact absurd e hn
      · exact .inr (.inl ⟨by omega, b⟩)
  le := fun z hz => by
    rcases List.mem_append.1 hz with hz | hz
    · have := h.le z (List.mem_append_left _ hz)
      omega
    · obtain rfl := List.mem_singleton.1 hz
      exact Int.le_refl _
  yes := fun _ => ⟨P, _, rfl, rfl⟩
  no := fun e => by cases e
theorem set_last {α : Type} (P : List α) (y z : α) : (P ++ [y]).set P.length z = P ++ [z] := by
  rw [List.set_append_right _ _ (Nat.le_refl _), Nat.sub_self]
  rfl
theorem rd_last (P : List Rg) (y : Rg) (n : Nat) (hn : n = P.length) : rd_T35 (P ++ [y]) (n : Int) = y := by
  subst hn
  rw [rd_rg _ _ (by simp)]
  simp
theorem last_w {n : Nat} (h : n ≤ 100000000) : wrap64 (((n + 1 : Nat) : Int) - 1) = (n : Int) := by unfold wrap64; omega
theorem pick_l (A B : List Ce) (La Lb : List Sp) (hA : A = La.map cl) (hB : B = Lb.map cl) (lA : La.length ≤ 1000000) (lB : Lb.length ≤ 1000000) (how : Int) (op : Bool → Bool → Bool) (c : List Int) (G : Int → Bool) (hG : ∀ n, G n = op (inB La n) (inB Lb n))
    (hop : ∀ (k : Nat) (out : List Rg) (opn : Bool) (i : Nat), i + 1 < c.length → goboref3_pick.l0 (k + 1) A B how c out opn (i : Int) = (goboref3_in.f k A (rd c (i : Int))).bind fun t => (goboref3_in.f k B (rd c (i : Int))).bind fun u => goboref3_pick.j1 k A B how c out opn (i : Int) (op t u))
    (hend : ∀ (k : Nat) (out : List Rg) (opn : Bool) (i : Nat), i + 1 = c.length → goboref3_pick.l0 (k + 1) A B how c out opn (i : Int) = some out)
    (hc : RisB (-1) c) (hGc : ∀ i u v R, c.drop i = u :: v :: R → ∀ n, u ≤ n → n < v → G n = G u) (htop : ∀ e, e ∈ c → e ≤ 1112064) (hmost : 1112064 ∈ c) (hlen : c.length ≤ 10000000) (d : Nat) :
    ∀ (i : Nat) (u : Int) (R : List Int) (O : List Sp) (opn : Bool), c.drop i = u :: R → R.length = d → O.length ≤ i → Inv G u O opn →
      ∃ O', okS O' ∧ NFb (-1) O' ∧ (∀ n, inS O' n ↔ 0 ≤ n ∧ n < 1112064 ∧ G n = true) ∧ Ev (fun k => goboref3_pick.l0 k A B how c (O.map rgS) opn (i : Int)) (O'.map rgS) := by
  induction d with
  | zero =>
    intro i u R O opn hd hR ho hI
    obtain rfl := List.length_eq_zero_iff.1 hR
    obtain ⟨h1, h2, h3, _⟩ := drop_rd hd
    have hu : u = 1112064 := by
      have a := ris_last hc i u hd 1112064 hmost
      have b := htop u (List.mem_of_mem_drop (by rw [hd]; exact List.mem_cons_self ..))
      omega
    refine ⟨O, hI.ok, hI.nf, fun n => by rw [hI.mem, hu], ?_⟩
    exact Ev.step (f := fun _ => some (O.map rgS)) (fun k => hend k _ _ i (by simpa using h3.symm)) (Ev.now _)
  | succ d ih =>
    intro i u R O opn hd hR ho hI
    obtain ⟨v, R, rfl⟩ : ∃ v R', R = v :: R' := by
      cases R with
      | nil => simp at hR
      | cons v R => exact ⟨v, R, rfl⟩
    obtain ⟨h1, h2, h3, h4⟩ := drop_rd hd
    rw [List.length_cons] at h3 hR
    obtain ⟨_, h6, h7, _⟩ := drop_rd h4
    obtain ⟨huv, _⟩ := ris_gap hc i u v R hd
    have hu0 := ris_mem hc u (List.mem_of_mem_drop (by rw [hd]; exact List.mem_cons_self ..))
    have hv := htop v (List.mem_of_mem_drop (by rw [hd]; simp))
    have hGu := hGc i u v R hd
    have b0 : i ≤ 100000000 := by omega
    have b1 : (0 : Int) ≤ (i : Int) := by omega
    have b2 : (i : Int) < (c.length : Int) := by omega
    have b3 : (0 : Int) ≤ ((i + 1 : Nat) : Int) := by omega
    have b4 : ((i + 1 : Nat) : Int) < (c.length : Int) := by omega
    have b5 : (O.map rgS).length < 17592186044416 := by rw [List.length_map]; omega
    have b6 : R.length = d := by omega
    have b7 : i + 1 < c.length := by omega
    have b8 : O.length ≤ i + 1 := by omega
    have b9 : 0 ≤ u := by omega
    have a0 : u < 1112064 := by omega
    have a1 : 0 ≤ v - 1 := by omega
    have a2 : v - 1 < 1112064 := by omega
    have eat : goboref3_at.f u = some (valS u) := at_val b9 a0
    have eat1 : goboref3_at.f (wrap64 (v - 1)) = some (valS (wrap64 (v - 1))) := by rw [w64_32 (by omega) (by omega)]; exact at_val a1 a2
    have E2 := Aside0.mk h2
    have E6 := Aside0.mk h6
    have E1 := Aside0.mk (wsucc b0)
    clear h2 h6
    -- behind the test of the place
    have key : ∃ O', okS O' ∧ NFb (-1) O' ∧ (∀ n, inS O' n ↔ 0 ≤ n ∧ n < 1112064 ∧ G n = true) ∧ Ev (fun k => goboref3_pick.j1 k A B how c (O.map rgS) opn (i : Int) (G u)) (O'.map rgS) := by
      cases hg : G u
      · obtain ⟨O', o1, o2, o3, o4⟩ := ih (i + 1) v R O false h4 b6 b8 (hI.skip huv (fun n a b => (hGu n a b).trans hg))
        refine ⟨O', o1, o2, o3, ?_⟩
        refine Ev.step (f := fun k => goboref3_pick.j2 k A B how c (O.map rgS) (i : Int) false false) (fun k => by simp only [goboref3_pick.j1]; rw [if_neg (by decide)]) ?_
        refine Ev.step (f := fun k => goboref3_pick.l0 k A B how c (O.map rgS) false ((i + 1 : Nat) : Int)) (fun k => ?_) o4
        simp only [goboref3_pick.j2]
        rw [if_neg (by decide), if_neg (by decide), E1.out]
      · have hGt : ∀ n, u ≤ n → n < v → G n = true := fun n a b => (hGu n a b).trans hg
        cases opn
        · obtain ⟨O', o1, o2, o3, o4⟩ := ih (i + 1) v R (O ++ [⟨u, v⟩]) true h4 b6 (by rw [List.length_append, List.length_singleton]; omega) (hI.fresh b9 huv hv hGt)
          refine ⟨O', o1, o2, o3, ?_⟩
          refine Ev.step (f := fun k => goboref3_pick.j2 k A B how c (O.map rgS) (i : Int) true true) (fun k => by simp only [goboref3_pick.j1]; rw [if_pos trivial]; rfl) ?_
          refine Ev.step (f := fun k => goboref3_pick.l0 k A B how c ((O ++ [(⟨u, v⟩ : Sp)]).map rgS) true ((i + 1 : Nat) : Int)) (fun k => ?_) o4
          have el : wrap64 (((O.map rgS ++ [(⟨valS u, 0⟩ : Rg)]).length : Int) - 1) = ((O.length : Nat) : Int) := by
            rw [List.length_append, List.length_map, List.length_singleton]
            exact last_w (by omega)
          simp only [goboref3_pick.j2]
          rw [if_pos trivial, if_pos b1, if_pos b2, E2.out, eat, Option.bind_some, if_pos b5, Option.bind_some, if_pos trivial, E1.out, if_pos b3, if_pos b4, E6.out, eat1, Option.bind_some, el, if_pos (Int.natCast_nonneg _), if_pos (by rw [List.length_append, List.length_map, List.length_singleton]; exact Int.ofNat_lt.2 (Nat.lt_succ_self _)),
            rd_last (O.map rgS) ⟨valS u, 0⟩ O.length (by rw [List.length_map]), Int.toNat_natCast]
          have hs := set_last (O.map rgS) (⟨valS u, 0⟩ : Rg) (⟨valS u, valS (wrap64 (v - 1))⟩ : Rg)
          rw [List.length_map] at hs
          rw [hs, List.map_append]
          rfl
        · obtain ⟨P, y, rfl, hy⟩ := hI.yes rfl
          rw [List.length_append, List.length_singleton] at ho
          obtain ⟨O', o1, o2, o3, o4⟩ := ih (i + 1) v R (P ++ [⟨y.f0, v⟩]) true h4 b6 (by rw [List.length_append, List.length_singleton]; omega) (hI.more hy huv hv hGt)
          refine ⟨O', o1, o2, o3, ?_⟩
          refine Ev.step (f := fun k => goboref3_pick.j2 k A B how c ((P ++ [y]).map rgS) (i : Int) true false) (fun k => by simp only [goboref3_pick.j1]; rw [if_pos trivial]; rfl) ?_
          refine Ev.step (f := fun k => goboref3_pick.l0 k A B how c ((P ++ [(⟨y.f0, v⟩ : Sp)]).map rgS) true ((i + 1 : Nat) : Int)) (fun k => ?_) o4
          have em : (P ++ [y]).map rgS = P.map rgS ++ [rgS y] := by rw [List.map_append]; rfl
          have el : wrap64 (((P.map rgS ++ [rgS y]).length : Int) - 1) = ((P.length : Nat) : Int) := by
            rw [List.length_append, List.length_map, List.length_singleton]
            exact last_w (by omega)
          simp only [goboref3_pick.j2]
          rw [if_neg (by decide), if_pos trivial, E1.out, if_pos b3, if_pos b4, E6.out, eat1, Option.bind_some, em, el, if_pos (by omega), if_pos (by rw [List.length_append, List.length_map, List.length_singleton]; omega),
            rd_last (P.map rgS) (rgS y) P.length (by rw [List.length_map]), Int.toNat_natCast]
          have hs := set_last (P.map rgS) (rgS y) (⟨(rgS y).f0, valS (wrap64 (v - 1))⟩ : Rg)
          rw [List.length_map] at hs
          rw [hs, List.map_append]
          rfl
    obtain ⟨O', o1, o2, o3, o4⟩ := key
    refine ⟨O', o1, o2, o3, ?_⟩
    refine Ev.step (f := fun k => (goboref3_in.f k A u).bind fun t => (goboref3_in.f k B u).bind fun w => goboref3_pick.j1 k A B how c (O.map rgS) opn (i : Int) (op t w)) (fun k => by rw [hop k _ _ i b7, E2.out]) ?_
    have iA := in_ev La lA u
    have iB := in_ev Lb lB u
    rw [← hA] at iA
    rw [← hB] at iB
    refine Ev.bind iA (Ev.bind iB ?_)
    rw [← hG u]
    exact o4
theorem endsL_mem (x : Sp) : ∀ (L : List Sp), x ∈ L → x.f0 ∈ endsL L ∧ x.f1 ∈ endsL L
  | y :: L, h => by
    rcases List.mem_cons.1 h with rfl | h
    · exact ⟨by simp [endsL], by simp [endsL]⟩
    · obtain ⟨a, b⟩ := endsL_mem x L h
      exact ⟨by simp [endsL, a], by simp [endsL, b]⟩
theorem endsL_of (e : Int) : ∀ (L : List Sp), e ∈ endsL L → ∃ x, x ∈ L ∧ (e = x.f0 ∨ e = x.f1)
  | y :: L, h => by
    simp only [endsL, List.mem_cons] at h
    rcases h with h | h | h
    · exact ⟨y, by simp, .inl h⟩
    · exact ⟨y, by simp, .inr h⟩
    · obtain ⟨x, hx, he⟩ := endsL_of e L h
      exact ⟨x, by simp [hx], he⟩
/-- no end of a list of spans lies between two numbers: it has all of these, or none -/
theorem inB_const {L : List Sp} {c : List Int} (hm : ∀ x, x ∈ L → x.f0 ∈ c ∧ x.f1 ∈ c) {u v : Int} (hgap : ∀ e, e ∈ c → e ≤ u ∨ v ≤ e) {n : Int} (h0 : u ≤ n) (h1 : n < v) : inB L n = inB L u := by
  unfold inB
  rw [Bool.eq_iff_iff, List.any_eq_true, List.any_eq_true]
  constructor
  · rintro ⟨x, hx, h⟩
    refine ⟨x, hx, ?_⟩
    simp only [Bool.and_eq_true, decide_eq_true_eq] at h ⊢
    have a := hgap _ (hm x hx).1
    have b := hgap _ (hm x hx).2
    omega
  · rintro ⟨x, hx, h⟩
    refine ⟨x, hx, ?_⟩
    simp only [Bool.and_eq_true, decide_eq_true_eq] at h ⊢
    have a := hgap _ (hm x hx).1
    have b := hgap _ (hm x hx).2
    omega
theorem pick_ev (La Lb : List Sp) (oA : okS La) (oB : okS Lb) (lA : La.length ≤ 1000000) (lB : Lb.length ≤ 1000000 - 1000) (lAB : La.length + Lb.length ≤ 900000) (how : Int) (op : Bool → Bool → Bool)
    (hop : ∀ (A B : List Ce) (c : List Int) (k : Nat) (out : List Rg) (opn : Bool) (i : Nat), i + 1 < c.length → c.length ≤ 10000000 → goboref3_pick.l0 (k + 1) A B how c out opn (i : Int) = (goboref3_in.f k A (rd c (i : Int))).bind fun t => (goboref3_in.f k B (rd c (i : Int))).bind fun u => goboref3_pick.j1 k A B how c out opn (i : Int) (op t u)) :
    ∃ O, okS O ∧ NFb (-1) O ∧ (∀ n, inS O n ↔ 0 ≤ n ∧ n < 1112064 ∧ op (inB La n) (inB Lb n) = true) ∧ Ev (fun k => goboref3_pick.f k (La.map cl) (Lb.map cl) how) (O.map rgS) := by
  obtain ⟨T, hT⟩ : ∃ T : List Sp, T = (⟨0, 1112064⟩ :: La) ++ Lb := ⟨_, rfl⟩
  have hTm : ([(⟨0, 1112064⟩ : Ce)] ++ La.map cl) ++ Lb.map cl = T.map cl := by rw [hT]; simp [cl]
  have oT : okS T := fun x hx => by
    rw [hT] at hx
    rcases List.mem_append.1 hx with hx | hx
    · rcases List.mem_cons.1 hx with rfl | hx
      · exact ⟨Int.le_refl _, by decide, Int.le_refl _⟩
      · exact oA x hx
    · exact oB x hx
  have lT : T.length ≤ 1000000 := by rw [hT]; simp; omega
  obtain ⟨c, hc⟩ : ∃ c, insAll (endsL T) [] = c := ⟨_, rfl⟩
  have hmem : ∀ e, e ∈ c ↔ e ∈ endsL T := fun e => by rw [← hc, insAll_mem]; simp
  have hb : ∀ e, e ∈ c → -1 < e ∧ e ≤ 1112064 := fun e he => by
    obtain ⟨x, hx, hxe⟩ := endsL_of e T ((hmem e).1 he)
    have := oT x hx
    omega
  have hris : RisB (-1) c := by
    rw [← hc]
    exact insAll_ris _ _ _ (fun e he => (hb e ((hmem e).2 he)).1) trivial
  have hclen : c.length ≤ 10000000 := by
    have := insAll_len (endsL T) []
    rw [endsL_len, List.length_nil, hc] at this
    omega
  have hT0 : (⟨0, 1112064⟩ : Sp) ∈ T := by rw [hT]; simp
  have hm0 : (0 : Int) ∈ c := (hmem 0).2 (endsL_mem _ T hT0).1
  have hm1 : (1112064 : Int) ∈ c := (hmem 1112064).2 (endsL_mem _ T hT0).2
  have hmA : ∀ x, x ∈ La → x.f0 ∈ c ∧ x.f1 ∈ c := fun x hx => by
    obtain ⟨a, b⟩ := endsL_mem x T (by rw [hT]; simp [hx])
    exact ⟨(hmem _).2 a, (hmem _).2 b⟩
  have hmB : ∀ x, x ∈ Lb → x.f0 ∈ c ∧ x.f1 ∈ c := fun x hx => by
    obtain ⟨a, b⟩ := endsL_mem x T (by rw [hT]; simp [hx])
    exact ⟨(hmem _).2 a, (hmem _).2 b⟩
  obtain ⟨u, R, hcu⟩ : ∃ u R, c = u :: R := by
    cases c with
    | nil => cases hm0
    | cons u R => exact ⟨u, R, rfl⟩
  have hu : u = 0 := by
    have a := hb u (by rw [hcu]; simp)
    rw [hcu] at hm0 hris
    rcases List.mem_cons.1 hm0 with h | h
    · exact h.symm
    · have := ris_mem hris.2 0 h
      omega
  have hend : ∀ (k : Nat) (out : List Rg) (opn : Bool) (i : Nat), i + 1 = c.length → goboref3_pick.l0 (k + 1) (La.map cl) (Lb.map cl) how c out opn (i : Int) = some out := fun k out opn i hi => by
    simp only [goboref3_pick.l0]
    rw [wsucc (i := i) (by omega), if_neg (by omega)]
  obtain ⟨O, o1, o2, o3, o4⟩ := pick_l (La.map cl) (Lb.map cl) La Lb rfl rfl lA (by omega) how op c (fun n => op (inB La n) (inB Lb n)) (fun _ => rfl) (fun k out opn i hi => hop _ _ c k out opn i hi hclen) hend hris
    (fun i u v R hd n h0 h1 => by
      obtain ⟨_, hg⟩ := ris_gap hris i u v R hd
      show op _ _ = op _ _
      rw [inB_const hmA hg h0 h1, inB_const hmB hg h0 h1]) (fun e he => (hb e he).2) hm1 hclen R.length 0 u R [] false (by rw [hcu]; rfl) rfl (Nat.le_refl _)
    ⟨(fun x hx => by cases hx), trivial, fun n => ⟨fun h => absurd h (inS_nil n), fun h => by omega⟩, (fun y hy => by cases hy), (fun e => by cases e), (fun _ y hy => by cases hy)⟩
  refine ⟨O, o1, o2, o3, ?_⟩
  have hcut := cuts_ev T lT
  rw [hc] at hcut
  refine Ev.congr (f := fun k => (goboref3_cuts.f k (T.map cl)).bind fun t => goboref3_pick.l0 k (La.map cl) (Lb.map cl) how t ([] : List Rg) false 0) (fun k => ?_) (Ev.bind hcut o4)
  unfold goboref3_pick.f
  rw [Option.bind_some, if_pos (by simp; omega), Option.bind_some, if_pos (by simp; omega), hTm]
end Go.Proofs.Ytmmdnjooddhhoaa.Rn
