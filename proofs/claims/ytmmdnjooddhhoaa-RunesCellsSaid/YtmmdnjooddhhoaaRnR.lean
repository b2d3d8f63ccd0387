/- spans as ranges and back; the plain law of RunesOnes' parts. -/
import Derived.Test.YtmmdnjooddhhoaaRnP
set_option linter.unusedVariables false
set_option linter.unusedSimpArgs false
namespace Go.Proofs.Ytmmdnjooddhhoaa.Rn
open Go Go.RowKit Go.Proofs.YtmmdnjooddhhoaaW.PrintWords Go.Proofs.YtmmdnjooddhhoaaW.PrintLast Go.Proofs.YtmmdnjooddhhoaaW.PrintMore
theorem isS_iff (r : Int) : isS r = true ↔ (0 ≤ r ∧ r < 55296) ∨ (57343 < r ∧ r ≤ 1114111) := by
  unfold isS
  simp only [Bool.or_eq_true, Bool.and_eq_true, decide_eq_true_eq]
theorem val_num {n : Int} (h1 : 0 ≤ n) (h2 : n < 1112064) : numS (valS n) = n ∧ isS (valS n) = true ∧ 0 ≤ valS n ∧ valS n ≤ 1114111 := by
  rw [val_is h1 h2, isS_iff]
  by_cases c : n < 55296
  · rw [if_pos c, num_is (by omega) (by omega), if_neg (by omega), if_pos c]
    omega
  · rw [if_neg c, num_is (by omega) (by omega), if_neg (by omega), if_neg (by omega), if_neg (by omega), if_pos (by omega)]
    omega
theorem num_val {r : Int} (h : isS r = true) : valS (numS r) = r ∧ 0 ≤ numS r ∧ numS r < 1112064 := by
  rw [isS_iff] at h
  have hn : numS r = if r < 55296 then r else r - 2048 := by
    rw [num_is (by omega) (by omega), if_neg (by omega)]
    by_cases c : r < 55296
    · rw [if_pos c, if_pos c]
    · rw [if_neg c, if_neg c, if_neg (by omega), if_pos (by omega)]
  rw [hn]
  by_cases c : r < 55296
  · rw [if_pos c, val_is (by omega) (by omega), if_pos c]
    omega
  · rw [if_neg c, val_is (by omega) (by omega), if_neg (by omega)]
    omega
theorem rg_is {x : Sp} (h0 : 0 ≤ x.f0) (h1 : x.f0 < x.f1) (h2 : x.f1 ≤ 1112064) : rgS x = ⟨valS x.f0, valS (x.f1 - 1)⟩ := by
  unfold rgS
  rw [show wrap64 (x.f1 - 1) = x.f1 - 1 by unfold wrap64; omega]
theorem keep_rg {x : Sp} (h0 : 0 ≤ x.f0) (h1 : x.f0 < x.f1) (h2 : x.f1 ≤ 1112064) : keepS (rgS x) = [x] := by
  obtain ⟨a, b⟩ := x
  dsimp only at h0 h1 h2
  rw [rg_is h0 h1 h2]
  obtain ⟨p0, p1, p2, p3⟩ := val_num h0 (show a < 1112064 by omega)
  obtain ⟨q0, q1, q2, q3⟩ := val_num (show 0 ≤ b - 1 by omega) (show b - 1 < 1112064 by omega)
  have hle : valS a ≤ valS (b - 1) := by
    rw [val_is h0 (by omega), val_is (by omega) (by omega)]
    repeat' split <;> omega
  unfold keepS
  dsimp only
  rw [beh_is (by omega) (by omega), p0, q0, q1, if_pos rfl, if_pos ⟨hle, by omega⟩]
  rw [show b - 1 + 1 = b by omega]
theorem raw_rg {L : List Sp} (h : okS L) : rawS (L.map rgS) = L := by
  induction L with
  | nil => rfl
  | cons x L ih =>
    obtain ⟨h0, h1, h2⟩ := h x (List.mem_cons_self ..)
    have := ih (fun y hy => h y (List.mem_cons_of_mem _ hy))
    unfold rawS at *
    rw [List.map_cons, List.flatMap_cons, keep_rg h0 h1 h2, this]
    rfl
theorem spans_rg {L : List Sp} (h : okS L) (hn : NFb (-1) L) : spansS (L.map rgS) = L := by
  unfold spansS
  rw [raw_rg h, nfS_of_NFb hn (fun x hx => ⟨(h x hx).1, (h x hx).2.1⟩)]
theorem spans_ok {l : List Rg} (h : okR l = true) : okS (spansS l) ∧ NFb (-1) (spansS l) := by
  have hv := raw_ok h
  obtain ⟨h1, h2⟩ := nfS_spec (l := rawS l) (fun x hx => ⟨(hv x hx).1, (hv x hx).2.1⟩)
  refine ⟨fun x hx => ?_, h1⟩
  have h3 := NFb_mem h1 x hx
  refine ⟨by have := h3.1; show 0 ≤ x.f0; omega, h3.2, ?_⟩
  obtain ⟨y, hy, hy1, hy2⟩ := (h2 (x.f1 - 1)).1 ⟨x, hx, by have := h3.2; omega, by omega⟩
  have := (hv y hy).2.2
  have hy3 : x.f1 - 1 < y.f1 := hy2
  omega
theorem okR_rg {L : List Sp} (h : okS L) (hl : L.length ≤ 1000000) : okR (L.map rgS) = true := by
  unfold okR
  simp only [Bool.and_eq_true, decide_eq_true_eq, List.all_eq_true, List.length_map]
  refine ⟨hl, fun y hy => ?_⟩
  obtain ⟨x, hx, rfl⟩ := List.mem_map.1 hy
  obtain ⟨h0, h1, h2⟩ := h x hx
  rw [rg_is h0 h1 h2]
  have p := val_num h0 (show x.f0 < 1112064 by omega)
  have q := val_num (show 0 ≤ x.f1 - 1 by omega) (show x.f1 - 1 < 1112064 by omega)
  dsimp only
  omega
theorem count_f (l : List Rg) (h : okR l = true) (k : Nat) (hk : l.length < k) : runes_Count.f k l = some (sumS (spansS l)) := by
  have h1 : runes_spans.f l = some (spansS l) := by unfold runes_spans.f; rw [if_pos h]
  have hl := spansS_len l
  have hl2 := okR_len h
  have h2 := count_l (spansS l) (spans_ok h).1 (by omega) (spansS l).length k 0 0 (by omega) (by omega) (by omega) (by omega) (by simp)
  unfold runes_Count.f
  rw [h1, Option.bind_some]
  simpa using h2
theorem inR_rg {x : Sp} (h0 : 0 ≤ x.f0) (h1 : x.f0 < x.f1) (h2 : x.f1 ≤ 1112064) {o : Int} (ho : isS o = true) : inR o (rgS x) = true ↔ x.f0 ≤ numS o ∧ numS o < x.f1 := by
  rw [rg_is h0 h1 h2]
  obtain ⟨e, n0, n1⟩ := num_val ho
  have hv := val_is n0 n1
  have hv0 := val_is h0 (show x.f0 < 1112064 by omega)
  have hv1 := val_is (show 0 ≤ x.f1 - 1 by omega) (show x.f1 - 1 < 1112064 by omega)
  unfold inR
  simp only [Bool.and_eq_true, decide_eq_true_eq]
  rw [e] at hv
  generalize numS o = n at *
  generalize valS x.f0 = p at *
  generalize valS (x.f1 - 1) = q at *
  subst hv0 hv1 hv
  repeat' split
  all_goals omega
theorem has_rg {L : List Sp} (h : okS L) {o : Int} (ho : isS o = true) : hasS (L.map rgS) o = true ↔ inS L (numS o) := by
  unfold hasS inS
  rw [ho, Bool.true_and, List.any_eq_true]
  constructor
  · rintro ⟨y, hy, h1⟩
    obtain ⟨x, hx, rfl⟩ := List.mem_map.1 hy
    obtain ⟨b0, b1, b2⟩ := h x hx
    exact ⟨x, hx, (inR_rg b0 b1 b2 ho).1 h1⟩
  · rintro ⟨x, hx, h1⟩
    obtain ⟨b0, b1, b2⟩ := h x hx
    exact ⟨_, List.mem_map_of_mem hx, (inR_rg b0 b1 b2 ho).2 h1⟩
end Go.Proofs.Ytmmdnjooddhhoaa.Rn
