/- Tools of my own for walks: a class of later worlds, drawing regions by hand, an append whose result is written out. -/
import Derived.Test.YtmmdnjooddhhoaaRnH
import Derived.OrdersHeld
import Derived.Deep.QuietTactic
set_option linter.unusedVariables false
set_option linter.unusedSimpArgs false
namespace Go.Proofs.Ytmmdnjooddhhoaa.Rn
open Go Go.RowKit Go.Proofs.YtmmdnjooddhhoaaW.PrintWords Go.Proofs.YtmmdnjooddhhoaaW.PrintLast Go.Proofs.YtmmdnjooddhhoaaW.PrintMore
/-- a world behind w -/
structure Later (w : World) where
  wx : World
  below : Below w.heap.size w wx
instance (w : World) : Inhabited (Later w) := ⟨⟨w, Below.refl _ _⟩⟩
theorem hall1 {P : Program} {ops : Array Oper} {md : Region.Mode} {Q : Exit → Act → World → Prop} {S : World → Prop} {i : Nat} {o : Oper} {fuel : Nat} {listed : Array Bool} {a : Act} {w : World} (hr : Region.ready md ops listed = [i]) (hi : ops[i]? = some o)
    (h : ∀ K : Act → World → Prop, (∀ a' w', S w' → wpAnyH P md ops Q S fuel (listed.setIfInBounds i true) a' w' → K a' w') → if Region.wanted o (yielded ops a.tmps) = true then o.wp P a w K Q else K (a.put o.dst undef) w) : wpAnyH P md ops Q S (fuel + 1) listed a w := by
  refine wpAnyH_all hr (by simp) (fun j hj => ?_)
  obtain rfl := List.mem_singleton.1 hj
  have h2 := h (fun a' w' => S w' ∧ wpAnyH P md ops Q S fuel (listed.setIfInBounds j true) a' w') (fun a' w' hs hh => ⟨hs, hh⟩)
  unfold wpOp
  simp only [hi]
  by_cases hw : Region.wanted o (yielded ops a.tmps) = true
  · rw [if_pos hw] at h2 ⊢
    exact .inl h2
  · rw [if_neg hw] at h2 ⊢
    exact h2
theorem hall2 {P : Program} {ops : Array Oper} {md : Region.Mode} {Q : Exit → Act → World → Prop} {S : World → Prop} {i j : Nat} {o u : Oper} {fuel : Nat} {listed : Array Bool} {a : Act} {w : World} (hr : Region.ready md ops listed = [i, j]) (hi : ops[i]? = some o) (hj : ops[j]? = some u)
    (h : ∀ K : Act → World → Prop, (∀ a' w', S w' → wpAnyH P md ops Q S fuel (listed.setIfInBounds i true) a' w' → K a' w') → if Region.wanted o (yielded ops a.tmps) = true then o.wp P a w K Q else K (a.put o.dst undef) w)
    (k : ∀ K : Act → World → Prop, (∀ a' w', S w' → wpAnyH P md ops Q S fuel (listed.setIfInBounds j true) a' w' → K a' w') → if Region.wanted u (yielded ops a.tmps) = true then u.wp P a w K Q else K (a.put u.dst undef) w) : wpAnyH P md ops Q S (fuel + 1) listed a w := by
  refine wpAnyH_all hr (by simp) (fun m hm => ?_)
  rcases List.mem_cons.1 hm with rfl | hm
  · have h2 := h (fun a' w' => S w' ∧ wpAnyH P md ops Q S fuel (listed.setIfInBounds m true) a' w') (fun a' w' hs hh => ⟨hs, hh⟩)
    unfold wpOp
    simp only [hi]
    by_cases hw : Region.wanted o (yielded ops a.tmps) = true
    · rw [if_pos hw] at h2 ⊢
      exact .inl h2
    · rw [if_neg hw] at h2 ⊢
      exact h2
  · obtain rfl := List.mem_singleton.1 hm
    have h2 := k (fun a' w' => S w' ∧ wpAnyH P md ops Q S fuel (listed.setIfInBounds m true) a' w') (fun a' w' hs hh => ⟨hs, hh⟩)
    unfold wpOp
    simp only [hj]
    by_cases hw : Region.wanted u (yielded ops a.tmps) = true
    · rw [if_pos hw] at h2 ⊢
      exact .inl h2
    · rw [if_neg hw] at h2 ⊢
      exact h2
theorem takeQ {P : Program} {ops : Array Oper} {md : Region.Mode} {Q : Exit → Act → World → Prop} {S : World → Prop} {i : Nat} {o : Oper} {fuel : Nat} {listed : Array Bool} {a : Act} {w : World} (hi : ops[i]? = some o)
    (hs : Region.noSelect ops = true) (hf : Region.free md ops listed i = true) (hr : (Region.ready md ops listed).contains i = true) (hQ2 : ∀ v c a w, Q (.panic c) (a.put o.dst v) w → Q (.panic c) a w) (hS : S w)
    (h : ∀ K : Act → Prop, (∀ a', wpAnyH P md ops Q S fuel (listed.setIfInBounds i true) a' w → K a') → if Region.wanted o (yielded ops a.tmps) = true then ∃ v, (∀ w', S w' → (execOp a.eval o).run P w' = .ok (.value v) w') ∧ K (a.put o.dst v) else K (a.put o.dst undef)) : wpAnyH P md ops Q S (fuel + 1) listed a w := by
  have h2 := h (fun a' => wpAnyH P md ops Q S fuel (listed.setIfInBounds i true) a' w) (fun _ hh => hh)
  by_cases hw : Region.wanted o (yielded ops a.tmps) = true
  · rw [if_pos hw] at h2
    obtain ⟨v, hv, hk⟩ := h2
    exact wpAnyH_take hi hs hf hr (hQ2 v) (.inl ⟨hw, hv⟩) hS hk
  · rw [if_neg hw] at h2
    exact wpAnyH_take hi hs hf hr (hQ2 undef) (.inr ⟨by simpa using hw, rfl⟩) hS h2
section
variable {P : Program} {ops : Array Oper} {rest : List Oper} {o : Oper} {a : Act} {Q : Exit → Act → World → Prop} {α : Type}
theorem R_appendS (d : Kd α) {w0 W : World} (base : Nat) (hgd : o.guard = none) (s x : Operand) (t e : TypeId) (z : Value) (bytes : Nat)
    (ho : o.op = .call { callee := .builtin .append, args := #[s, x], argTypes := #[t, t] })
    (ht : P.underlying t = some (.slice e)) (hinfo : (P.info? e).map (fun i => (i.zero, i.size, i.bytes)) = some (some z, d.sz, bytes)) (hz : z.cells.size = d.sz) (hs0 : 0 < d.sz) (hb0 : 0 < bytes)
    (v : Value) (xs : List α) (p : α) (cs : List Value) (ok okp : Nat → Prop) (hs : a.eval s = v) (hx : a.eval x = .slice (some ⟨W.heap.size, 0, none⟩) 1 1) (hp : d.M W base okp p cs) (hokp : ∀ k, okp k → ok k ∧ some k ≠ v.ownBlock) (hfresh : ∀ k, W.heap.size ≤ k → ok k)
    (HO : d.R e W base ok v xs) (HB : Below base w0 W) (hbase : base ≤ W.heap.size) (hl : (xs.length + 1) * bytes ≤ 140737488355328)
    (h : ∀ A1 c1 w1, d.R e w1 base ok (.slice A1 (xs.length + 1) c1) (xs ++ [p]) → Below base w0 w1 → W.grownBy w1 v.ownBlock → ((Value.slice A1 (xs.length + 1) c1).ownBlock = v.ownBlock ∨ ∃ b, (Value.slice A1 (xs.length + 1) c1).ownBlock = some b ∧ W.heap.size ≤ b) → wpList P ops Q rest (a.put o.dst (.slice A1 (xs.length + 1) c1)) w1) :
    wpList P ops Q (o :: rest) a (W.alloc (.cells cs.toArray e)) := by
  refine Kd.R_append d base hgd s x t e z bytes ho ht hinfo hz hs0 hb0 v xs p cs ok okp hs hx hp hokp hfresh HO HB hbase hl ?_
  intro v1 w1 hR hB hG hN
  obtain ⟨A1, c1, rfl⟩ := Kd.R_slice hR
  rw [List.length_append, List.length_singleton] at *
  exact h A1 c1 w1 hR hB hG hN
end
/-! blocks known whole -/
theorem cell_after {w W : World} {a : Addr} {v : Value} (h : Below w.heap.size w W) (hc : w.cell? a = some v) : W.cell? a = some v := (h.cell (p := a) (blk_lt' hc)).trans hc
end Go.Proofs.Ytmmdnjooddhhoaa.Rn
