/- runes.Norm, May, Count, Same in plain words: what they answer, with enough rounds; spans as ranges and back. -/
import Derived.Test.YtmmdnjooddhhoaaRnO
set_option linter.unusedVariables false
set_option linter.unusedSimpArgs false
namespace Go.Proofs.Ytmmdnjooddhhoaa.Rn
open Go Go.RowKit Go.Proofs.YtmmdnjooddhhoaaW.PrintWords Go.Proofs.YtmmdnjooddhhoaaW.PrintLast Go.Proofs.YtmmdnjooddhhoaaW.PrintMore
theorem rg_ext {x y : Rg} (h0 : x.f0 = y.f0) (h1 : x.f1 = y.f1) : x = y := by
  cases x
  cases y
  simp_all
def eqS : List Rg → List Rg → Bool
  | [], [] => true
  | x :: l, y :: m => (x.f0 == y.f0) && (x.f1 == y.f1) && eqS l m
  | _, _ => false
theorem eqS_iff : ∀ l m : List Rg, eqS l m = true ↔ l = m
  | [], [] => by simp [eqS]
  | [], _ :: _ => by simp [eqS]
  | _ :: _, [] => by simp [eqS]
  | x :: l, y :: m => by
    simp only [eqS, Bool.and_eq_true, beq_iff_eq, eqS_iff l m, List.cons.injEq]
    constructor
    · rintro ⟨⟨h0, h1⟩, h2⟩
      exact ⟨rg_ext h0 h1, h2⟩
    · rintro ⟨rfl, h2⟩
      exact ⟨⟨rfl, rfl⟩, h2⟩
theorem rd_rg (l : List Rg) (i : Nat) (hi : i < l.length) : rd_T35 l (i : Int) = l[i] := by
  unfold rd_T35
  rw [Int.toNat_natCast, List.getD_eq_getElem?_getD, List.getElem?_eq_getElem hi]
  rfl
theorem rd_sp (l : List Sp) (i : Nat) (hi : i < l.length) : rd_T50 l (i : Int) = l[i] := by
  unfold rd_T50
  rw [Int.toNat_natCast, List.getD_eq_getElem?_getD, List.getElem?_eq_getElem hi]
  rfl
theorem same_l (l m : List Rg) (hlm : l.length = m.length) (hl : l.length ≤ 1000000) (d : Nat) : ∀ (k i : Nat), i ≤ l.length → l.length - i = d → d < k → api_Range_29.l0 k l m (l.length : Int) (i : Int) = some (eqS (l.drop i) (m.drop i)) := by
  induction d with
  | zero =>
    intro k i h1 h2 hk
    obtain ⟨k, rfl⟩ : ∃ m, k = m + 1 := ⟨k - 1, by omega⟩
    simp only [api_Range_29.l0]
    rw [if_neg (by omega), List.drop_of_length_le (by omega), List.drop_of_length_le (by omega)]
    rfl
  | succ d ih =>
    intro k i h1 h2 hk
    obtain ⟨k, rfl⟩ : ∃ m, k = m + 1 := ⟨k - 1, by omega⟩
    have hi : i < l.length := by omega
    have hj : i < m.length := by omega
    simp only [api_Range_29.l0]
    have e2 : wrap64 ((i : Int) + 1) = ((i + 1 : Nat) : Int) := by unfold wrap64; omega
    have hi2 := ih k (i + 1) (by omega) (by omega) (by omega)
    rw [if_pos (by omega), if_pos (by omega), if_pos (by omega), if_pos (by omega), rd_rg l i hi, rd_rg m i hj, List.drop_eq_getElem_cons hi, List.drop_eq_getElem_cons hj, e2, hi2]
    obtain ⟨x, hx⟩ : ∃ x, l[i] = x := ⟨_, rfl⟩
    obtain ⟨y, hy⟩ : ∃ y, m[i] = y := ⟨_, rfl⟩
    rw [hx, hy]
    clear hx hy hi2 ih e2 h1 h2 hk hi hj
    simp only [eqS]
    by_cases h0 : x.f0 = y.f0
    · by_cases h3 : x.f1 = y.f1
      · rw [if_neg (by simp [h0, h3])]
        simp [h0, h3]
      · rw [if_pos (by simp [h0, h3])]
        simp [h0, h3]
    · rw [if_pos (by simp [h0])]
      simp [h0]
theorem eqS_len : ∀ l m : List Rg, l.length ≠ m.length → eqS l m = false := fun l m h => by
  cases e : eqS l m
  · rfl
  · exact absurd (congrArg List.length ((eqS_iff l m).1 e)) h
theorem equal_f (l m : List Rg) (hl : l.length ≤ 1000000) (k : Nat) (hk : l.length < k) : api_Range_29.f k l m = some (eqS l m) := by
  unfold api_Range_29.f
  by_cases h : l.length = m.length
  · rw [if_pos (by omega)]
    exact same_l l m h hl l.length k 0 (by omega) (by omega) hk
  · rw [if_neg (by omega), eqS_len l m h]
theorem same_f (l m : List Rg) (hl : l.length ≤ 1000000) (k : Nat) (hk : l.length < k) : runes_Same.f k l m = some (eqS l m) := by
  unfold runes_Same.f
  rw [equal_f l m hl k hk]
  rfl
theorem okR_len {l : List Rg} (h : okR l = true) : l.length ≤ 1000000 := by
  unfold okR at h
  simp only [Bool.and_eq_true, decide_eq_true_eq] at h
  exact h.1
theorem norm_fk (l : List Rg) (h : okR l = true) (k : Nat) (hk : l.length < k) : runes_Norm.f k l = some (normS l) := at_rounds (fun k => runes_Norm.mono l k) (Nat.succ_le_of_lt hk) (norm_f l h)
theorem may_f (l : List Rg) (h : okR l = true) (k : Nat) (hk : l.length < k) : runes_May.f k l = some (eqS l (normS l)) := by
  unfold runes_May.f
  rw [norm_fk l h k hk, Option.bind_some, equal_f l _ (okR_len h) k hk]
  rfl
def sumS : List Sp → Int
  | [] => 0
  | x :: L => (x.f1 - x.f0) + sumS L
/-- spans within the numbers of scalar values -/
def okS (L : List Sp) : Prop := ∀ x, x ∈ L → 0 ≤ x.f0 ∧ x.f0 < x.f1 ∧ x.f1 ≤ 1112064
theorem count_l (L : List Sp) (hv : okS L) (hL : L.length ≤ 1000000) (d : Nat) : ∀ (k i : Nat) (acc : Int), i ≤ L.length → L.length - i = d → d < k → 0 ≤ acc → acc ≤ (i : Int) * 1112064 → runes_Count.l0 k acc L (L.length : Int) (i : Int) = some (acc + sumS (L.drop i)) := by
  induction d with
  | zero =>
    intro k i acc h1 h2 hk _ _
    obtain ⟨k, rfl⟩ : ∃ m, k = m + 1 := ⟨k - 1, by omega⟩
    simp only [runes_Count.l0]
    rw [if_neg (by omega), List.drop_of_length_le (by omega)]
    simp [sumS]
  | succ d ih =>
    intro k i acc h1 h2 hk ha hb
    obtain ⟨k, rfl⟩ : ∃ m, k = m + 1 := ⟨k - 1, by omega⟩
    have hi : i < L.length := by omega
    obtain ⟨v0, v1, v2⟩ := hv L[i] (List.getElem_mem hi)
    simp only [runes_Count.l0]
    rw [if_pos (by omega), if_pos (by omega), if_pos (by omega), rd_sp L i hi, List.drop_eq_getElem_cons hi]
    have e2 : wrap64 ((i : Int) + 1) = ((i + 1 : Nat) : Int) := by unfold wrap64; omega
    have e3 : wrap64 (wrap64 (acc + L[i].f1) - L[i].f0) = acc + (L[i].f1 - L[i].f0) := by unfold wrap64; omega
    rw [e2, e3, ih k (i + 1) _ (by omega) (by omega) (by omega) (by omega) (by omega)]
    simp only [sumS]
    congr 1
    omega
theorem num_is {r : Int} (h1 : -2147483648 ≤ r) (h2 : r < 2147483648) : numS r = (if r < 0 then 0 else if r < 55296 then r else if r ≤ 57343 then 55296 else if r ≤ 1114112 then r - 2048 else 1112064) := by
  unfold numS runes_number.f
  by_cases c1 : r < 0
  · simp [c1]
  by_cases c2 : r < 55296
  · simp only [if_neg c1, if_pos c2, Option.getD_some]
    unfold wrap64; omega
  by_cases c3 : r ≤ 57343
  · simp only [if_neg c1, if_neg c2, if_pos c3, Option.getD_some]
  simp only [if_neg c1, if_neg c2, if_neg c3, Option.getD_some]
  unfold mn wrap64
  by_cases c4 : r ≤ 1114112
  · rw [if_pos c4]; split <;> omega
  · rw [if_neg c4]; split <;> omega
theorem beh_is {r : Int} (h1 : -2147483648 ≤ r) (h2 : r < 2147483648) : behS r = numS r + (if isS r = true then 1 else 0) := by
  have hn := num_nonneg h1 h2
  have hn2 : numS r ≤ 1112064 := by rw [num_is h1 h2]; repeat' split <;> omega
  unfold behS runes_behind.f
  rw [num_f, is_f]
  simp only [Option.bind_some]
  cases h : isS r
  · simp
  · simp
    unfold wrap64; omega
theorem val_is {n : Int} (h1 : 0 ≤ n) (h2 : n < 1112064) : valS n = if n < 55296 then n else n + 2048 := by
  unfold valS runes_value.f
  by_cases c : n < 55296
  · simp only [if_pos c, Option.getD_some]; unfold wrap32; omega
  · simp only [if_neg c, Option.getD_some]; unfold wrap32 wrap64; omega
theorem okR_at' {l : List Rg} (h : okR l = true) {y : Rg} (hy : y ∈ l) : -2147483648 ≤ y.f0 ∧ y.f0 < 2147483648 ∧ -2147483648 ≤ y.f1 ∧ y.f1 < 2147483648 := by
  unfold okR at h
  simp only [Bool.and_eq_true, decide_eq_true_eq, List.all_eq_true] at h
  have := h.2 y hy
  omega
theorem raw_ok {l : List Rg} (h : okR l = true) : okS (rawS l) := fun x hx => by
  obtain ⟨y, hy, hxy⟩ := List.mem_flatMap.1 hx
  obtain ⟨b0, b1, b2, b3⟩ := okR_at' h hy
  unfold keepS at hxy
  by_cases c : y.f0 ≤ y.f1 ∧ numS y.f0 < behS y.f1
  · rw [if_pos c] at hxy
    obtain rfl := List.mem_singleton.1 hxy
    refine ⟨num_nonneg b0 b1, c.2, ?_⟩
    show behS y.f1 ≤ _
    rw [beh_is b2 b3, num_is b2 b3]
    unfold isS
    simp only [Bool.or_eq_true, Bool.and_eq_true, decide_eq_true_eq]
    repeat' split <;> omega
  · rw [if_neg c] at hxy
    cases hxy
end Go.Proofs.Ytmmdnjooddhhoaa.Rn
