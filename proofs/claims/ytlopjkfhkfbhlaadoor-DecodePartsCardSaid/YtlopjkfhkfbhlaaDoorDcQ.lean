import Derived.Test.YtlopjkfhkfbhlaaDoorDcP
set_option linter.unusedVariables false
set_option linter.unusedSimpArgs false
namespace Go.Proofs.YtlopjkfhkfbhlaaDoor.Dec
open Go Go.RowKit Go.Proofs.YtlopjkfhkfbhlaaDoorW.PrintWords Go.Proofs.YtlopjkfhkfbhlaaDoorW.PrintLast Go.Proofs.YtlopjkfhkfbhlaaDoorW.PrintMore
/-- a row of items that is read, by plain addresses -/
theorem item_cells {w : World} {A : Option Addr} {xs : List Item} (h : kItem.C w A xs.length xs) (hn : 0 < xs.length) :
    ∃ g o, A = some ⟨g, o, none⟩ ∧ g < w.heap.size ∧ ∀ j x, xs[j]? = some x → w.cell? ⟨g, o + j * 5, none⟩ = some (.int .i32 x.r) ∧ w.cell? ⟨g, o + j * 5 + 1, none⟩ = some (.int .i64 x.from_) ∧ w.cell? ⟨g, o + j * 5 + 2, none⟩ = some (.int .i64 x.to_) ∧ w.cell? ⟨g, o + j * 5 + 3, none⟩ = some (.bool x.bad) ∧ w.cell? ⟨g, o + j * 5 + 4, none⟩ = some (.bool x.more) := by
  obtain ⟨ad, rfl, hc⟩ := h.2.2 hn
  obtain ⟨g, o, sp⟩ := ad
  have h0 : ∃ v, w.cell? ⟨g, o, sp⟩ = some v := by
    obtain ⟨c, hl, hR, hcc⟩ := hc 0 xs[0] (by simp)
    have hR' := kItem_open hR
    subst hR'
    have h1 := hcc 0 _ rfl
    exact ⟨_, by simpa [Addr.add, Nat.zero_mul] using h1⟩
  obtain ⟨v, hv⟩ := h0
  obtain rfl := cell_spot hv
  refine ⟨g, o, rfl, World.block_lt_of_cell? w _ hv, fun j x hx => ?_⟩
  obtain ⟨c, hl, hR, hcc⟩ := hc j x hx
  have hR' := kItem_open hR
  subst hR'
  have hk : ∀ i u, (Item.cells x)[i]? = some u → w.cell? ⟨g, o + j * 5 + i, none⟩ = some u := fun i u hu => by
    have := hcc i u hu
    rw [add_at] at this
    rw [Nat.add_assoc]
    exact this
  exact ⟨hk 0 _ rfl, hk 1 _ rfl, hk 2 _ rfl, hk 3 _ rfl, hk 4 _ rfl⟩
theorem item_at {w : World} {g o : Nat} {xs : List Item} (h : kItem.C w (some ⟨g, o, none⟩) xs.length xs) (j : Nat) (hj : j < xs.length) :
    w.cell? ⟨g, o + j * 5, none⟩ = some (.int .i32 xs[j].r) ∧ w.cell? ⟨g, o + j * 5 + 1, none⟩ = some (.int .i64 xs[j].from_) ∧ w.cell? ⟨g, o + j * 5 + 2, none⟩ = some (.int .i64 xs[j].to_) ∧ w.cell? ⟨g, o + j * 5 + 3, none⟩ = some (.bool xs[j].bad) ∧ w.cell? ⟨g, o + j * 5 + 4, none⟩ = some (.bool xs[j].more) := by
  obtain ⟨g', o', e, _, hc⟩ := item_cells h (by omega)
  injection e with e
  injection e with e1 e2
  subst e1 e2
  exact hc j _ (by simp)
theorem C_drewN {α : Type} {d : Kd α} {w : World} {A : Option Addr} {n : Nat} {xs : List α} (h : d.C w A n xs) (m : Nat) : d.C (w.drewN m) A n xs := Kd.C_below h (pw_below_drewN (Below.refl _ _) m)
set_option maxHeartbeats 1000000 in
set_option maxRecDepth 100000 in
theorem items_same (A0 A1 : Option Addr) (c0 c1 : Nat) (xs : List Item) (w : World) (hl : xs.length ≤ 1000000000) (h0 : kItem.C w A0 xs.length xs) (h1 : kItem.C w A1 xs.length xs) :
    Calls Tryd.prog 10 #[.slice A0 xs.length c0, .slice A1 xs.length c1] w fun e w' => e = .returned (.bool true) ∧ Drawn0 w w' := by
  have hu36 := Tryd.underlying36
  by_cases he : xs = []
  · subst he
    clear h0 h1 hl
    go_enter Tryd.func10, Tryd.ntmps10
    go_wp2
    go_loopw [5] (fun i W => i = .int .i64 0 ∧ Drawn0 w W) (fun _ _ => 0)
    case atStart => exact ⟨rfl, Drawn0.refl _⟩
    case round =>
      obtain ⟨rfl, hD⟩ := hrel
      go_wp2
      go_ret
      exact ⟨rfl, hD⟩
  obtain ⟨g0, o0, rfl, _, _⟩ := item_cells h0 (List.length_pos_iff.2 he)
  obtain ⟨g1, o1, rfl, _, _⟩ := item_cells h1 (List.length_pos_iff.2 he)
  have H0 := Aside0.mk h0
  have H1 := Aside0.mk h1
  clear h0 h1 he
  go_enter Tryd.func10, Tryd.ntmps10
  go_wp2
  go_loopw [5] (fun i W => ∃ k : Nat, i = .int .i64 k ∧ k ≤ xs.length ∧ Drawn0 w W) (fun i _ => xs.length - (intOf i).toNat)
  case atStart => exact ⟨0, rfl, Nat.zero_le _, Drawn0.refl _⟩
  case round =>
    obtain ⟨k, rfl, hk, ⟨nd, rfl⟩⟩ := hrel
    by_cases hlt : k < xs.length
    · obtain ⟨x0, x1, x2, x3, x4⟩ := item_at (C_drewN H0.out nd) k hlt
      obtain ⟨y0, y1, y2, y3, y4⟩ := item_at (C_drewN H1.out nd) k hlt
      obtain ⟨z, hz⟩ : ∃ z, xs[k] = z := ⟨_, rfl⟩
      rw [hz] at x0 x1 x2 x3 x4 y0 y1 y2 y3 y4
      clear hz
      go_wp2
      repeat (go_quiet (fail); try go_wp2)
      exact ⟨⟨k + 1, by go_num, by omega, ⟨_, rfl⟩⟩, by simp [intOf]; omega⟩
    · go_wp2
      go_ret
      exact ⟨rfl, ⟨nd, rfl⟩⟩
end Go.Proofs.YtlopjkfhkfbhlaaDoor.Dec
