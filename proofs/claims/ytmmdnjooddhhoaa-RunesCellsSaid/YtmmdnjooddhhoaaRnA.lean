/- Plain laws of spans: lists of spans (whole numbers from one up to, not with, another); their one normal form. No program. -/
import Derived.Test.YtmmdnjooddhhoaaRpT
set_option linter.unusedVariables false
namespace Go.Proofs.Ytmmdnjooddhhoaa.Rn
abbrev Sp := S50
def inS (l : List Sp) (n : Int) : Prop := ∃ x, x ∈ l ∧ x.1 ≤ n ∧ n < x.2
theorem inS_nil (n : Int) : ¬ inS [] n := fun ⟨_, h, _⟩ => by cases h
theorem inS_cons (x : Sp) (l : List Sp) (n : Int) : inS (x :: l) n ↔ (x.1 ≤ n ∧ n < x.2) ∨ inS l n := by
  unfold inS
  constructor
  · rintro ⟨y, hy, h⟩
    rcases List.mem_cons.1 hy with rfl | hy
    · exact .inl h
    · exact .inr ⟨y, hy, h⟩
  · rintro (h | ⟨y, hy, h⟩)
    · exact ⟨x, List.mem_cons_self, h⟩
    · exact ⟨y, List.mem_cons_of_mem _ hy, h⟩
theorem inS_append (l m : List Sp) (n : Int) : inS (l ++ m) n ↔ inS l n ∨ inS m n := by
  induction l with
  | nil => simp [inS_nil]
  | cons x l ih => rw [List.cons_append, inS_cons, inS_cons, ih, or_assoc]
/-- rising, none empty, with others between, all above lo -/
def NFb : Int → List Sp → Prop
  | _, [] => True
  | lo, x :: r => lo < x.1 ∧ x.1 < x.2 ∧ NFb x.2 r
theorem NFb_mono {lo lo' : Int} {l : List Sp} (h : NFb lo l) (hl : lo' ≤ lo) : NFb lo' l := by
  cases l with
  | nil => trivial
  | cons x r => exact ⟨by have := h.1; omega, h.2⟩
theorem NFb_lt {l : List Sp} : ∀ {lo : Int}, NFb lo l → ∀ n, inS l n → lo < n := by
  induction l with
  | nil => intro lo _ n h; exact absurd h (inS_nil n)
  | cons x r ih =>
    intro lo h n hn
    obtain ⟨h1, h2, h3⟩ := h
    rcases (inS_cons x r n).1 hn with h4 | h4
    · omega
    · have := ih h3 n h4
      omega
theorem NFb_unique : ∀ (a b : List Sp) (lo : Int), NFb lo a → NFb lo b → (∀ n, inS a n ↔ inS b n) → a = b
  | [], [], _, _, _, _ => rfl
  | [], y :: t, _, _, hb, h => absurd ((h y.1).2 ((inS_cons y t y.1).2 (.inl ⟨by omega, hb.2.1⟩))) (inS_nil _)
  | x :: r, [], _, ha, _, h => absurd ((h x.1).1 ((inS_cons x r x.1).2 (.inl ⟨by omega, ha.2.1⟩))) (inS_nil _)
  | x :: r, y :: t, lo, ha, hb, h => by
    obtain ⟨a1, a2, a3⟩ := ha
    obtain ⟨b1, b2, b3⟩ := hb
    have e1 : x.1 = y.1 := by
      have h1 := (h x.1).1 ((inS_cons x r x.1).2 (.inl ⟨by omega, a2⟩))
      have h2 := (h y.1).2 ((inS_cons y t y.1).2 (.inl ⟨by omega, b2⟩))
      rcases (inS_cons y t x.1).1 h1 with h3 | h3 <;> rcases (inS_cons x r y.1).1 h2 with h4 | h4
      · omega
      · have := NFb_lt a3 _ h4; omega
      · have := NFb_lt b3 _ h3; omega
      · have := NFb_lt a3 _ h4; have := NFb_lt b3 _ h3; omega
    have e2 : x.2 = y.2 := by
      by_cases h1 : x.2 < y.2
      · have h2 := (h x.2).2 ((inS_cons y t x.2).2 (.inl ⟨by omega, h1⟩))
        rcases (inS_cons x r x.2).1 h2 with h3 | h3
        · omega
        · have := NFb_lt a3 _ h3; omega
      · by_cases h4 : y.2 < x.2
        · have h2 := (h y.2).1 ((inS_cons x r y.2).2 (.inl ⟨by omega, h4⟩))
          rcases (inS_cons y t y.2).1 h2 with h3 | h3
          · omega
          · have := NFb_lt b3 _ h3; omega
        · omega
    obtain ⟨x1, x2⟩ := x
    obtain ⟨y1, y2⟩ := y
    dsimp only at e1 e2 a1 a2 a3 b1 b2 b3
    subst e1 e2
    congr 1
    refine NFb_unique r t x2 a3 b3 (fun n => ⟨fun h1 => ?_, fun h1 => ?_⟩)
    · have h2 := NFb_lt a3 n h1
      rcases (inS_cons (⟨x1, x2⟩ : Sp) t n).1 ((h n).1 ((inS_cons (⟨x1, x2⟩ : Sp) r n).2 (.inr h1))) with h3 | h3
      · dsimp only at h3; omega
      · exact h3
    · have h2 := NFb_lt b3 n h1
      rcases (inS_cons (⟨x1, x2⟩ : Sp) r n).1 ((h n).2 ((inS_cons (⟨x1, x2⟩ : Sp) t n).2 (.inr h1))) with h3 | h3
      · dsimp only at h3; omega
      · exact h3
/-! one behind the other -/
theorem NFb_snoc {p : List Sp} {y x : Sp} : ∀ {lo : Int}, NFb lo (p ++ [y]) → y.2 < x.1 → x.1 < x.2 → NFb lo (p ++ [y] ++ [x]) := by
  induction p with
  | nil => intro lo h h1 h2; exact ⟨h.1, h.2.1, h1, h2, trivial⟩
  | cons z p ih => intro lo h h1 h2; exact ⟨h.1, h.2.1, ih h.2.2 h1 h2⟩
theorem NFb_last {p : List Sp} {y : Sp} {m : Int} : ∀ {lo : Int}, NFb lo (p ++ [y]) → y.1 < m → NFb lo (p ++ [(⟨y.1, m⟩ : Sp)]) := by
  induction p with
  | nil => intro lo h h1; exact ⟨h.1, h1, trivial⟩
  | cons z p ih => intro lo h h1; exact ⟨h.1, h.2.1, ih h.2.2 h1⟩
theorem NFb_end {p : List Sp} {y : Sp} : ∀ {lo : Int}, NFb lo (p ++ [y]) → lo < y.1 ∧ y.1 < y.2 := by
  induction p with
  | nil => intro lo h; exact ⟨h.1, h.2.1⟩
  | cons z p ih => intro lo h; have := ih h.2.2; have h1 := h.1; have h2 := h.2.1; exact ⟨by omega, this.2⟩
/-- one span more, behind those that begin ahead of it -/
def stepM (out : List Sp) (x : Sp) : List Sp :=
  match out.getLast? with
  | some y => if x.1 ≤ y.2 then out.dropLast ++ [(⟨y.1, max y.2 x.2⟩ : Sp)] else out ++ [x]
  | none => [x]
def mergeS (l : List Sp) : List Sp := l.foldl stepM []
theorem stepM_snoc (p : List Sp) (y x : Sp) : stepM (p ++ [y]) x = if x.1 ≤ y.2 then p ++ [(⟨y.1, max y.2 x.2⟩ : Sp)] else p ++ [y] ++ [x] := by
  unfold stepM
  rw [List.getLast?_concat]
  dsimp only
  rw [List.dropLast_concat]
theorem mergeS_snoc (l : List Sp) (x : Sp) : mergeS (l ++ [x]) = stepM (mergeS l) x := by simp [mergeS]
/-- what has been merged: normal, begins ahead of what comes, has what was there -/
def Merged (l out : List Sp) : Prop :=
  NFb (-1) out ∧ (∀ n, inS out n ↔ inS l n) ∧ (out = [] ↔ l = []) ∧ (∀ p y, out = p ++ [y] → ∃ z, z ∈ l ∧ y.1 ≤ z.1)
theorem merged_step {l out : List Sp} {x : Sp} (h : Merged l out) (h0 : 0 ≤ x.1) (h1 : x.1 < x.2) (hs : ∀ z, z ∈ l → z.1 ≤ x.1) : Merged (l ++ [x]) (stepM out x) := by
  obtain ⟨a1, a2, a3, a4⟩ := h
  have hmem : ∀ n, inS [x] n ↔ x.1 ≤ n ∧ n < x.2 := fun n => by rw [inS_cons]; simp [inS_nil]
  rcases List.eq_nil_or_concat out with rfl | ⟨p, y, rfl⟩
  · have hl : l = [] := a3.1 rfl
    subst hl
    refine ⟨⟨by omega, h1, trivial⟩, fun n => Iff.rfl, by simp [stepM], fun p y e => ⟨x, by simp, ?_⟩⟩
    cases p with
    | nil => have : x = y := by simpa [stepM] using e
             rw [this]; omega
    | cons z p => simp [stepM] at e
  · rw [List.concat_eq_append] at *
    obtain ⟨z, hz, hyz⟩ := a4 p y rfl
    have hyx : y.1 ≤ x.1 := by have := hs z hz; omega
    have hye := NFb_end a1
    have hne : ¬ l = [] := fun e => by rw [e] at hz; cases hz
    rw [stepM_snoc]
    by_cases h2 : x.1 ≤ y.2
    · rw [if_pos h2]
      refine ⟨NFb_last a1 (by omega), fun n => ?_, by simp, fun q u e => ?_⟩
      · rw [inS_append l, ← a2, inS_append, inS_append, hmem, inS_cons, inS_cons]
        simp only [inS_nil, or_false]
        constructor
        · rintro (h3 | h3)
          · exact .inl (.inl h3)
          · by_cases h4 : n < y.2
            · exact .inl (.inr ⟨h3.1, h4⟩)
            · exact .inr (by omega)
        · rintro ((h3 | h3) | h3)
          · exact .inl h3
          · exact .inr (by omega)
          · exact .inr (by omega)
      · have := List.append_inj' e rfl
        obtain ⟨_, e2⟩ := this
        injection e2 with e2
        refine ⟨z, List.mem_append_left _ hz, ?_⟩
        rw [← e2]
        exact hyz
    · rw [if_neg h2]
      refine ⟨NFb_snoc a1 (by omega) h1, fun n => ?_, by simp, fun q u e => ?_⟩
      · rw [inS_append, inS_append l, a2]
      · have := List.append_inj' e rfl
        obtain ⟨_, e2⟩ := this
        injection e2 with e2
        exact ⟨x, by simp, by rw [← e2]; omega⟩
/-- rising by where they begin -/
def Rising : List Sp → Prop
  | [] => True
  | x :: r => (∀ z, z ∈ r → x.1 ≤ z.1) ∧ Rising r
theorem merged_all (l : List Sp) (hr : ∀ i j (hi : i < j) (hj : j < l.length), (l[i]'(by omega)).1 ≤ l[j].1) (hv : ∀ x, x ∈ l → 0 ≤ x.1 ∧ x.1 < x.2) : ∀ k, k ≤ l.length → Merged (l.take k) (mergeS (l.take k)) := by
  intro k
  induction k with
  | zero => intro _; exact ⟨trivial, fun n => Iff.rfl, by simp [mergeS], fun p y e => by simp [mergeS] at e⟩
  | succ k ih =>
    intro hk
    have h := ih (by omega)
    rw [List.take_succ_eq_append_getElem (by omega), mergeS_snoc]
    have hx := hv l[k] (List.getElem_mem _)
    refine merged_step h hx.1 hx.2 (fun z hz => ?_)
    obtain ⟨i, hi, rfl⟩ := List.mem_iff_getElem.1 hz
    rw [List.length_take] at hi
    rw [List.getElem_take]
    exact hr i k (by omega) (by omega)
theorem merged_of {l : List Sp} (hr : ∀ i j (hi : i < j) (hj : j < l.length), (l[i]'(by omega)).1 ≤ l[j].1) (hv : ∀ x, x ∈ l → 0 ≤ x.1 ∧ x.1 < x.2) : NFb (-1) (mergeS l) ∧ ∀ n, inS (mergeS l) n ↔ inS l n := by
  have h := merged_all l hr hv l.length (Nat.le_refl _)
  rw [List.take_length] at h
  exact ⟨h.1, h.2.1⟩
theorem inS_perm {a b : List Sp} (h : ∀ x, x ∈ a ↔ x ∈ b) (n : Int) : inS a n ↔ inS b n :=
  ⟨fun ⟨x, hx, h1⟩ => ⟨x, (h x).1 hx, h1⟩, fun ⟨x, hx, h1⟩ => ⟨x, (h x).2 hx, h1⟩⟩
/-! sorted by hand -/
def insS (x : Sp) : List Sp → List Sp
  | [] => [x]
  | y :: r => if x.1 ≤ y.1 then x :: y :: r else y :: insS x r
def sortS : List Sp → List Sp
  | [] => []
  | x :: r => insS x (sortS r)
theorem insS_mem (x z : Sp) : ∀ l, z ∈ insS x l ↔ z = x ∨ z ∈ l
  | [] => by simp [insS]
  | y :: r => by
    unfold insS
    split
    · simp
    · rw [List.mem_cons, insS_mem x z r, List.mem_cons]
      constructor
      · rintro (h | h | h) <;> simp [h]
      · rintro (h | h | h) <;> simp [h]
theorem sortS_mem (z : Sp) : ∀ l, z ∈ sortS l ↔ z ∈ l
  | [] => by simp [sortS]
  | x :: r => by rw [sortS, insS_mem, sortS_mem z r, List.mem_cons]
theorem insS_rising (x : Sp) : ∀ l, Rising l → Rising (insS x l)
  | [], _ => ⟨(fun z h => by cases h), trivial⟩
  | y :: r, h => by
    unfold insS
    split
    · rename_i h1
      refine ⟨fun z hz => ?_, h⟩
      rcases List.mem_cons.1 hz with rfl | hz
      · exact h1
      · have := h.1 z hz; omega
    · rename_i h1
      refine ⟨fun z hz => ?_, insS_rising x r h.2⟩
      rcases (insS_mem x z r).1 hz with rfl | hz
      · omega
      · exact h.1 z hz
theorem sortS_rising : ∀ l, Rising (sortS l)
  | [] => trivial
  | x :: r => insS_rising x _ (sortS_rising r)
theorem rising_at : ∀ (l : List Sp), Rising l → ∀ i j (hi : i < j) (hj : j < l.length), (l[i]'(by omega)).1 ≤ l[j].1
  | [], _, i, j, hi, hj => absurd hj (by simp)
  | x :: r, h, i, j, hi, hj => by
    cases j with
    | zero => omega
    | succ j =>
      cases i with
      | zero => exact h.1 _ (by simp)
      | succ i => simpa using rising_at r h.2 i j (by omega) (by simpa using hj)
/-- what spans come to: whatever order they were sorted in -/
def nfS (l : List Sp) : List Sp := mergeS (sortS l)
theorem nfS_spec {l : List Sp} (hv : ∀ x, x ∈ l → 0 ≤ x.1 ∧ x.1 < x.2) : NFb (-1) (nfS l) ∧ ∀ n, inS (nfS l) n ↔ inS l n := by
  have h := merged_of (l := sortS l) (rising_at _ (sortS_rising l)) (fun x hx => hv x ((sortS_mem x l).1 hx))
  exact ⟨h.1, fun n => (h.2 n).trans (inS_perm (fun x => sortS_mem x l) n)⟩
theorem merge_any {l s : List Sp} (hp : ∀ x, x ∈ s ↔ x ∈ l) (hr : ∀ i j (hi : i < j) (hj : j < s.length), (s[i]'(by omega)).1 ≤ s[j].1) (hv : ∀ x, x ∈ l → 0 ≤ x.1 ∧ x.1 < x.2) : mergeS s = nfS l := by
  have h1 := merged_of hr (fun x hx => hv x ((hp x).1 hx))
  have h2 := nfS_spec hv
  exact NFb_unique _ _ (-1) h1.1 h2.1 (fun n => (h1.2 n).trans ((inS_perm hp n).trans (h2.2 n).symm))
theorem nfS_of_NFb {l : List Sp} (h : NFb (-1) l) (hv : ∀ x, x ∈ l → 0 ≤ x.1 ∧ x.1 < x.2) : nfS l = l :=
  NFb_unique _ _ (-1) (nfS_spec hv).1 h (nfS_spec hv).2
theorem NFb_mem : ∀ {l : List Sp} {lo : Int}, NFb lo l → ∀ x, x ∈ l → lo < x.1 ∧ x.1 < x.2
  | [], _, _, x, hx => by cases hx
  | y :: r, lo, h, x, hx => by
    rcases List.mem_cons.1 hx with rfl | hx
    · exact ⟨h.1, h.2.1⟩
    · have := NFb_mem h.2.2 x hx
      have h1 := h.1
      have h2 := h.2.1
      omega
end Go.Proofs.Ytmmdnjooddhhoaa.Rn
