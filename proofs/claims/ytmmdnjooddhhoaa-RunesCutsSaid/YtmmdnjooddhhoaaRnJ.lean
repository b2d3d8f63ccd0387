/- RunesCuts answers true. -/
import Derived.Test.YtmmdnjooddhhoaaRpU
import Derived.Test.YtmmdnjooddhhoaaRnI
set_option linter.unusedVariables false
set_option linter.unusedSimpArgs false
namespace Go.Proofs.Ytmmdnjooddhhoaa.Rn
open Go Go.RowKit Go.Proofs.YtmmdnjooddhhoaaW.PrintWords Go.Proofs.YtmmdnjooddhhoaaW.PrintLast Go.Proofs.YtmmdnjooddhhoaaW.PrintMore
theorem okR_flat (ls : List (List Rg)) (h : ∀ l, l ∈ ls → rgOk l = true) (hl : ls.flatten.length ≤ 1000000) : okR ls.flatten = true := by
  refine okR_of ?_ hl
  unfold rgOk
  rw [List.all_eq_true]
  intro x hx
  obtain ⟨l, hm, hxl⟩ := List.mem_flatten.1 hx
  have := h l hm
  unfold rgOk at this
  rw [List.all_eq_true] at this
  exact this x hxl
theorem flat_len (n : Nat) : ∀ ls : List (List Rg), (∀ l, l ∈ ls → l.length ≤ n) → ls.flatten.length ≤ ls.length * n
  | [], _ => by simp
  | l :: ls, h => by
    have := flat_len n ls (fun m hm => h m (List.mem_cons_of_mem _ hm))
    have := h l (List.mem_cons_self ..)
    rw [List.flatten_cons, List.length_append, List.length_cons, Nat.succ_mul]
    omega
theorem cuts_end (ls : List (List Rg)) (h : ∀ l, l ∈ ls → rgOk l = true) (hl : ls.length ≤ 5) (hm : ∀ l, l ∈ ls → l.length ≤ 12) : Ev (fun k => gobolaw5_RunesCuts.l0 k ls (ls.length : Int)) true := by
  have hfl := flat_len 12 ls hm
  have hf := okR_flat ls h (by omega)
  have hok : ∀ l, l ∈ ls → okR l = true := fun l hx => okR_of (h l hx) (by have := hm l hx; omega)
  have hC : okC ls = true := by
    unfold okC
    rw [List.all_eq_true.2 hok, hf, decide_eq_true (show ls.flatten.length ≤ 1000 by omega), decide_eq_true (show ls.length ≤ 1000000 by omega)]
    rfl
  have hp : runes_Cuts.f ls = some (cutsS ls) := by unfold runes_Cuts.f; rw [if_pos hC]
  have hlen : (cutsS ls).length ≤ 1000000 := by
    have h1 := outS_len (cutE ls) (spansS ls.flatten) (spansS ls.flatten).length (Nat.le_refl _)
    rw [List.take_length] at h1
    have h2 := cutE_len ls
    have h3 := spansS_len ls.flatten
    have h4 : (spansS ls.flatten).length * (cutE ls).length ≤ 60 * 120 := Nat.mul_le_mul (by omega) (by omega)
    unfold cutsS
    rw [List.length_map]
    omega
  have hS := ref_same (cutsS ls) (cutsS ls) hlen
  rw [(eqS_iff _ _).2 rfl] at hS
  refine Ev.step (f := _) (fun k => by simp only [gobolaw5_RunesCuts.l0]; rw [if_neg (by omega)]) ?_
  refine Ev.bind (ev_some (r := true) rfl) (ev_if rfl ?_)
  exact Ev.bind (ev_some hp) (Ev.bind (ref_cuts ls hok hf (by omega) (by omega)) (ev_bind1 hS))
theorem cuts_loop (ls : List (List Rg)) (h : ∀ l, l ∈ ls → rgOk l = true) (hl : ls.length ≤ 5) (d : Nat) : ∀ i : Nat, i ≤ ls.length → ls.length - i = d → (∀ j (hj : j < ls.length), j < i → ls[j].length ≤ 12) → Ev (fun k => gobolaw5_RunesCuts.l0 k ls (i : Int)) true := by
  induction d with
  | zero =>
    intro i h1 h2 h3
    obtain rfl : i = ls.length := by omega
    refine cuts_end ls h hl (fun l hm => ?_)
    obtain ⟨j, hj, rfl⟩ := List.getElem_of_mem hm
    exact h3 j hj hj
  | succ d ih =>
    intro i h1 h2 h3
    have hi : i < ls.length := by omega
    have hrd := rd_ll ls i hi
    by_cases c : ls[i].length ≤ 12
    · refine Ev.step (f := fun k => gobolaw5_RunesCuts.l0 k ls ((i + 1 : Nat) : Int)) (fun k => ?_) (ih (i + 1) (by omega) (by omega) (fun j hj hji => ?_))
      · simp only [gobolaw5_RunesCuts.l0]
        rw [if_pos (by omega), if_pos (by omega), hrd, if_neg (by omega), wsucc (i := i) (by omega)]
      · by_cases e : j = i
        · subst e
          exact c
        · exact h3 j hj (by omega)
    · refine Ev.step (f := fun _ => some true) (fun k => ?_) (Ev.now _)
      simp only [gobolaw5_RunesCuts.l0]
      rw [if_pos (by omega), if_pos (by omega), hrd, if_pos (by omega)]
      rfl
theorem cuts_law (ls : List (List Rg)) (h : ∀ l, l ∈ ls → rgOk l = true) : ∃ k, gobolaw5_RunesCuts.f k ls = some true := by
  refine Ev.rounds ?_
  unfold gobolaw5_RunesCuts.f
  by_cases c : (ls.length : Int) > 5
  · exact ev_if c (ev_some rfl)
  · exact ev_else c (cuts_loop ls h (by omega) ls.length 0 (by omega) (by omega) (fun j hj h0 => absurd h0 (by omega)))
end Go.Proofs.Ytmmdnjooddhhoaa.Rn
