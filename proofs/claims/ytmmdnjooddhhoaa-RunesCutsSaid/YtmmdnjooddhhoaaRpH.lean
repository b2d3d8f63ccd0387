import Derived.Test.YtmmdnjooddhhoaaRpF
import Derived.Test.YtmmdnjooddhhoaaRpG
namespace Go.Proofs.Ytmmdnjooddhhoaa.Rn
open Go.RowKit Go.Proofs.YtmmdnjooddhhoaaW.PrintWords Go.Proofs.YtmmdnjooddhhoaaW.PrintLast Go.Proofs.YtmmdnjooddhhoaaW.PrintMore
attribute [local go_sem] max2_int min2_int max_two min_two max_three min_three max_four min_four   -- for this text's walks alone
set_option linter.unusedVariables false
set_option linter.unusedSimpArgs false
/-! ### goboref3_pick: function 32 -/
mutual
def goboref3_pick.l0 : Nat → List (S53) → List (S53) → Int → List Int → List (S35) → Bool → Int → Option ((List (S35)))
  | 0, _, _, _, _, _, _, _ => none
  | k + 1, x0, x1, x2, x8, x9, x10, x11 => if (wrap64 (x11 + 1)) < (x8.length : Int) then (if 0 ≤ x11 then (if x11 < (x8.length : Int) then ((goboref3_in.f k x0 (rd x8 x11)).bind fun t350 => ((goboref3_in.f k x1 (rd x8 x11)).bind fun t352 => (if x2 = 1 then (if t350 = true then (goboref3_pick.j1 k x0 x1 x2 x8 x9 x10 x11 true) else (if x2 = 2 then (if t352 = true then (goboref3_pick.j1 k x0 x1 x2 x8 x9 x10 x11 true) else (if x2 = 3 then (if x2 = 4 then (if x2 = 5 then (goboref3_pick.j1 k x0 x1 x2 x8 x9 x10 x11 (!t350)) else (goboref3_pick.j1 k x0 x1 x2 x8 x9 x10 x11 false)) else (if x2 = 5 then (goboref3_pick.j1 k x0 x1 x2 x8 x9 x10 x11 (!t350)) else (goboref3_pick.j1 k x0 x1 x2 x8 x9 x10 x11 false))) else (if x2 = 4 then (if x2 = 5 then (goboref3_pick.j1 k x0 x1 x2 x8 x9 x10 x11 (!t350)) else (goboref3_pick.j1 k x0 x1 x2 x8 x9 x10 x11 false)) else (if x2 = 5 then (goboref3_pick.j1 k x0 x1 x2 x8 x9 x10 x11 (!t350)) else (goboref3_pick.j1 k x0 x1 x2 x8 x9 x10 x11 false))))) else (if x2 = 3 then (if t352 = true then (goboref3_pick.j1 k x0 x1 x2 x8 x9 x10 x11 true) else (if x2 = 4 then (if x2 = 5 then (goboref3_pick.j1 k x0 x1 x2 x8 x9 x10 x11 (!t350)) else (goboref3_pick.j1 k x0 x1 x2 x8 x9 x10 x11 false)) else (if x2 = 5 then (goboref3_pick.j1 k x0 x1 x2 x8 x9 x10 x11 (!t350)) else (goboref3_pick.j1 k x0 x1 x2 x8 x9 x10 x11 false)))) else (if x2 = 4 then (if x2 = 5 then (goboref3_pick.j1 k x0 x1 x2 x8 x9 x10 x11 (!t350)) else (goboref3_pick.j1 k x0 x1 x2 x8 x9 x10 x11 false)) else (if x2 = 5 then (goboref3_pick.j1 k x0 x1 x2 x8 x9 x10 x11 (!t350)) else (goboref3_pick.j1 k x0 x1 x2 x8 x9 x10 x11 false)))))) else (if x2 = 2 then (if t352 = true then (goboref3_pick.j1 k x0 x1 x2 x8 x9 x10 x11 true) else (if x2 = 3 then (if t350 = true then (goboref3_pick.j1 k x0 x1 x2 x8 x9 x10 x11 true) else (if x2 = 4 then (if x2 = 5 then (goboref3_pick.j1 k x0 x1 x2 x8 x9 x10 x11 (!t350)) else (goboref3_pick.j1 k x0 x1 x2 x8 x9 x10 x11 false)) else (if x2 = 5 then (goboref3_pick.j1 k x0 x1 x2 x8 x9 x10 x11 (!t350)) else (goboref3_pick.j1 k x0 x1 x2 x8 x9 x10 x11 false)))) else (if x2 = 4 then (if t350 = true then (if x2 = 5 then (goboref3_pick.j1 k x0 x1 x2 x8 x9 x10 x11 (!t350)) else (goboref3_pick.j1 k x0 x1 x2 x8 x9 x10 x11 false)) else (if x2 = 5 then (goboref3_pick.j1 k x0 x1 x2 x8 x9 x10 x11 (!t350)) else (goboref3_pick.j1 k x0 x1 x2 x8 x9 x10 x11 false))) else (if x2 = 5 then (goboref3_pick.j1 k x0 x1 x2 x8 x9 x10 x11 (!t350)) else (goboref3_pick.j1 k x0 x1 x2 x8 x9 x10 x11 false))))) else (if x2 = 3 then (if t350 = true then (goboref3_pick.j1 k x0 x1 x2 x8 x9 x10 x11 true) else (if t352 = true then (goboref3_pick.j1 k x0 x1 x2 x8 x9 x10 x11 true) else (if x2 = 4 then (if x2 = 5 then (goboref3_pick.j1 k x0 x1 x2 x8 x9 x10 x11 (!t350)) else (goboref3_pick.j1 k x0 x1 x2 x8 x9 x10 x11 false)) else (if x2 = 5 then (goboref3_pick.j1 k x0 x1 x2 x8 x9 x10 x11 (!t350)) else (goboref3_pick.j1 k x0 x1 x2 x8 x9 x10 x11 false))))) else (if x2 = 4 then (if t350 = true then (if t352 = true then (goboref3_pick.j1 k x0 x1 x2 x8 x9 x10 x11 true) else (if x2 = 5 then (goboref3_pick.j1 k x0 x1 x2 x8 x9 x10 x11 (!t350)) else (goboref3_pick.j1 k x0 x1 x2 x8 x9 x10 x11 false))) else (if x2 = 5 then (goboref3_pick.j1 k x0 x1 x2 x8 x9 x10 x11 (!t350)) else (goboref3_pick.j1 k x0 x1 x2 x8 x9 x10 x11 false))) else (if x2 = 5 then (goboref3_pick.j1 k x0 x1 x2 x8 x9 x10 x11 (!t350)) else (goboref3_pick.j1 k x0 x1 x2 x8 x9 x10 x11 false)))))))) else (none)) else (none)) else (some x9)
def goboref3_pick.j1 : Nat → List (S53) → List (S53) → Int → List Int → List (S35) → Bool → Int → Bool → Option ((List (S35)))
  | 0, _, _, _, _, _, _, _, _ => none
  | k + 1, x0, x1, x2, x8, x9, x10, x11, x14 => if x14 = true then (goboref3_pick.j2 k x0 x1 x2 x8 x9 x11 x14 (!x10)) else (goboref3_pick.j2 k x0 x1 x2 x8 x9 x11 x14 false)
def goboref3_pick.j2 : Nat → List (S53) → List (S53) → Int → List Int → List (S35) → Int → Bool → Bool → Option ((List (S35)))
  | 0, _, _, _, _, _, _, _, _ => none
  | k + 1, x0, x1, x2, x8, x9, x11, x14, x86 => if x86 = true then (if 0 ≤ x11 then (if x11 < (x8.length : Int) then ((goboref3_at.f (rd x8 x11)).bind fun t354 => (if x9.length < 17592186044416 then ((some (x9 ++ [(⟨t354, 0⟩ : S35)] : List (S35))).bind fun y355 => (if x14 = true then (if 0 ≤ (wrap64 (x11 + 1)) then (if (wrap64 (x11 + 1)) < (x8.length : Int) then ((goboref3_at.f (wrap64 ((rd x8 (wrap64 (x11 + 1))) - 1))).bind fun t359 => (if 0 ≤ (wrap64 ((y355.length : Int) - 1)) then (if (wrap64 ((y355.length : Int) - 1)) < (y355.length : Int) then (goboref3_pick.l0 k x0 x1 x2 x8 (y355.set ((wrap64 ((y355.length : Int) - 1)) : Int).toNat (⟨(rd_T35 y355 (wrap64 ((y355.length : Int) - 1))).f0, t359⟩ : S35)) x14 (wrap64 (x11 + 1))) else (none)) else (none))) else (none)) else (none)) else (goboref3_pick.l0 k x0 x1 x2 x8 y355 x14 (wrap64 (x11 + 1))))) else (none))) else (none)) else (none)) else (if x14 = true then (if 0 ≤ (wrap64 (x11 + 1)) then (if (wrap64 (x11 + 1)) < (x8.length : Int) then ((goboref3_at.f (wrap64 ((rd x8 (wrap64 (x11 + 1))) - 1))).bind fun t362 => (if 0 ≤ (wrap64 ((x9.length : Int) - 1)) then (if (wrap64 ((x9.length : Int) - 1)) < (x9.length : Int) then (goboref3_pick.l0 k x0 x1 x2 x8 (x9.set ((wrap64 ((x9.length : Int) - 1)) : Int).toNat (⟨(rd_T35 x9 (wrap64 ((x9.length : Int) - 1))).f0, t362⟩ : S35)) x14 (wrap64 (x11 + 1))) else (none)) else (none))) else (none)) else (none)) else (goboref3_pick.l0 k x0 x1 x2 x8 x9 x14 (wrap64 (x11 + 1))))
end
def goboref3_pick.f (k : Nat) (l0 : List (S53)) (l1 : List (S53)) (a2 : Int) : Option ((List (S35))) := (some (([(⟨0, 1112064⟩ : S53)] : List (S53)) : List (S53))).bind fun y337 => (if y337.length + l0.length < 8796093022208 then ((some (y337 ++ l0 : List (S53))).bind fun y340 => (if y340.length + l1.length < 8796093022208 then ((goboref3_cuts.f k (y340 ++ l1)).bind fun t346 => (goboref3_pick.l0 k l0 l1 a2 t346 ([] : List (S35)) false 0)) else (none))) else (none))
theorem goboref3_pick.mono_l : ∀ k, (∀ y0 y1 y2 y3 y4 y5 y6, LeO (goboref3_pick.l0 k y0 y1 y2 y3 y4 y5 y6) (goboref3_pick.l0 (k + 1) y0 y1 y2 y3 y4 y5 y6)) ∧ (∀ y0 y1 y2 y3 y4 y5 y6 y7, LeO (goboref3_pick.j1 k y0 y1 y2 y3 y4 y5 y6 y7) (goboref3_pick.j1 (k + 1) y0 y1 y2 y3 y4 y5 y6 y7)) ∧ (∀ y0 y1 y2 y3 y4 y5 y6 y7, LeO (goboref3_pick.j2 k y0 y1 y2 y3 y4 y5 y6 y7) (goboref3_pick.j2 (k + 1) y0 y1 y2 y3 y4 y5 y6 y7))
  | 0 => ⟨fun _ _ _ _ _ _ _ r h => by simp [goboref3_pick.l0] at h, fun _ _ _ _ _ _ _ _ r h => by simp [goboref3_pick.j1] at h, fun _ _ _ _ _ _ _ _ r h => by simp [goboref3_pick.j2] at h⟩
  | k + 1 => by
    obtain ⟨ih0, ih1, ih2⟩ := goboref3_pick.mono_l k
    refine ⟨?_, ?_, ?_⟩
    · intro y0 y1 y2 y3 y4 y5 y6
      unfold goboref3_pick.l0
      repeat' first
      | (with_reducible exact ih0 _ _ _ _ _ _ _)
      | (with_reducible exact ih1 _ _ _ _ _ _ _ _)
      | (with_reducible exact ih2 _ _ _ _ _ _ _ _)
      | (with_reducible exact goboref3_cuts.mono _ _)
      | (with_reducible exact goboref3_in.mono _ _ _)
      | (with_reducible exact LeO.refl _)
      | (with_reducible exact LeO.none _)
      | (with_reducible refine LeO.ite ?_ ?_)
      | (with_reducible refine LeO.bind ?_ (fun _ => ?_))
      | exact ih0 _ _ _ _ _ _ _
      | exact ih1 _ _ _ _ _ _ _ _
      | exact ih2 _ _ _ _ _ _ _ _
      | exact goboref3_cuts.mono _ _
      | exact goboref3_in.mono _ _ _
      | exact LeO.none _
      | refine LeO.ite ?_ ?_
      | refine LeO.bind ?_ (fun _ => ?_)
    · intro y0 y1 y2 y3 y4 y5 y6 y7
      unfold goboref3_pick.j1
      repeat' first
      | (with_reducible exact ih0 _ _ _ _ _ _ _)
      | (with_reducible exact ih1 _ _ _ _ _ _ _ _)
      | (with_reducible exact ih2 _ _ _ _ _ _ _ _)
      | (with_reducible exact goboref3_cuts.mono _ _)
      | (with_reducible exact goboref3_in.mono _ _ _)
      | (with_reducible exact LeO.refl _)
      | (with_reducible exact LeO.none _)
      | (with_reducible refine LeO.ite ?_ ?_)
      | (with_reducible refine LeO.bind ?_ (fun _ => ?_))
      | exact ih0 _ _ _ _ _ _ _
      | exact ih1 _ _ _ _ _ _ _ _
      | exact ih2 _ _ _ _ _ _ _ _
      | exact goboref3_cuts.mono _ _
      | exact goboref3_in.mono _ _ _
      | exact LeO.none _
      | refine LeO.ite ?_ ?_
      | refine LeO.bind ?_ (fun _ => ?_)
    · intro y0 y1 y2 y3 y4 y5 y6 y7
      unfold goboref3_pick.j2
      repeat' first
      | (with_reducible exact ih0 _ _ _ _ _ _ _)
      | (with_reducible exact ih1 _ _ _ _ _ _ _ _)
      | (with_reducible exact ih2 _ _ _ _ _ _ _ _)
      | (with_reducible exact goboref3_cuts.mono _ _)
      | (with_reducible exact goboref3_in.mono _ _ _)
      | (with_reducible exact LeO.refl _)
      | (with_reducible exact LeO.none _)
      | (with_reducible refine LeO.ite ?_ ?_)
      | (with_reducible refine LeO.bind ?_ (fun _ => ?_))
      | exact ih0 _ _ _ _ _ _ _
      | exact ih1 _ _ _ _ _ _ _ _
      | exact ih2 _ _ _ _ _ _ _ _
      | exact goboref3_cuts.mono _ _
      | exact goboref3_in.mono _ _ _
      | exact LeO.none _
      | refine LeO.ite ?_ ?_
      | refine LeO.bind ?_ (fun _ => ?_)
theorem goboref3_pick.mono : ∀ a0 a1 a2 k, LeO (goboref3_pick.f k a0 a1 a2) (goboref3_pick.f (k + 1) a0 a1 a2) := by
  intro a0 a1 a2 k
  obtain ⟨ih0, ih1, ih2⟩ := goboref3_pick.mono_l k
  unfold goboref3_pick.f
  repeat' first
      | (with_reducible exact ih0 _ _ _ _ _ _ _)
      | (with_reducible exact ih1 _ _ _ _ _ _ _ _)
      | (with_reducible exact ih2 _ _ _ _ _ _ _ _)
      | (with_reducible exact goboref3_cuts.mono _ _)
      | (with_reducible exact goboref3_in.mono _ _ _)
      | (with_reducible exact LeO.refl _)
      | (with_reducible exact LeO.none _)
      | (with_reducible refine LeO.ite ?_ ?_)
      | (with_reducible refine LeO.bind ?_ (fun _ => ?_))
      | exact ih0 _ _ _ _ _ _ _
      | exact ih1 _ _ _ _ _ _ _ _
      | exact ih2 _ _ _ _ _ _ _ _
      | exact goboref3_cuts.mono _ _
      | exact goboref3_in.mono _ _ _
      | exact LeO.none _
      | refine LeO.ite ?_ ?_
      | refine LeO.bind ?_ (fun _ => ?_)
set_option maxHeartbeats 8000000 in
set_option maxRecDepth 100000 in
theorem goboref3_pick.calls (k : Nat) (A0 : Option Addr) (c0 : Nat) (l0 : List (S53)) (A1 : Option Addr) (c1 : Nat) (l1 : List (S53)) (a2 : Int) (r : List (S35)) (w : World) (hr0 : Kd.C k53 w A0 l0.length l0) (hc0 : l0.length ≤ c0) (hr1 : Kd.C k53 w A1 l1.length l1) (hc1 : l1.length ≤ c1) (h : goboref3_pick.f k l0 l1 a2 = some r) :
    Calls Try.prog 32 #[.slice A0 l0.length c0, .slice A1 l1.length c1, .int .i64 a2] w fun e w' => ∃ v0_ : Value, e = .returned (v0_) ∧ Kd.R k35 35 w' w.heap.size (fun _ => True) v0_ r ∧ Below w.heap.size w w' := by
  have hu53 := Try.underlying53
  have hu35 := Try.underlying35
  have HR0 := Aside0.mk hr0
  have HC0 := Aside0.mk hc0
  clear hr0 hc0
  have HR1 := Aside0.mk hr1
  have HC1 := Aside0.mk hc1
  clear hr1 hc1
  have HB := Aside0.mk (Below.refl w.heap.size w)
  have H : ((some (([(⟨0, 1112064⟩ : S53)] : List (S53)) : List (S53))).bind fun y337 => (if y337.length + l0.length < 8796093022208 then ((some (y337 ++ l0 : List (S53))).bind fun y340 => (if y340.length + l1.length < 8796093022208 then ((goboref3_cuts.f k (y340 ++ l1)).bind fun t346 => (goboref3_pick.l0 k l0 l1 a2 t346 ([] : List (S35)) false 0)) else (none))) else (none))) = some r := h
  clear h
  obtain ⟨y337, hy337⟩ : ∃ y_ : List (S53), y_ = (([(⟨0, 1112064⟩ : S53)] : List (S53))) := ⟨_, rfl⟩
  replace H : (if y337.length + l0.length < 8796093022208 then ((some (y337 ++ l0 : List (S53))).bind fun y340 => (if y340.length + l1.length < 8796093022208 then ((goboref3_cuts.f k (y340 ++ l1)).bind fun t346 => (goboref3_pick.l0 k l0 l1 a2 t346 ([] : List (S35)) false 0)) else (none))) else (none)) = some r := by first | (rw [hy337]; with_reducible exact H) | (have H2_ := (Option.bind_some _ _).symm.trans H; rw [hy337]; with_reducible exact H2_) | (have H2_ := (Option.bind_some _ _).symm.trans H; with_reducible exact H2_) | with_reducible exact H | (rw [hy337]; exact H) | exact H
  have Ny337 := Aside0.mk hy337
  clear hy337
  by_cases c4 : y337.length + l0.length < 8796093022208
  · rw [if_pos c4] at H
    have LMc4 := Aside0.mk c4
    clear c4
    obtain ⟨y340, hy340⟩ : ∃ y_ : List (S53), y_ = (y337 ++ l0) := ⟨_, rfl⟩
    replace H : (if y340.length + l1.length < 8796093022208 then ((goboref3_cuts.f k (y340 ++ l1)).bind fun t346 => (goboref3_pick.l0 k l0 l1 a2 t346 ([] : List (S35)) false 0)) else (none)) = some r := by first | (rw [hy340]; with_reducible exact H) | (have H2_ := (Option.bind_some _ _).symm.trans H; rw [hy340]; with_reducible exact H2_) | (have H2_ := (Option.bind_some _ _).symm.trans H; with_reducible exact H2_) | with_reducible exact H | (rw [hy340]; exact H) | exact H
    have Ny340 := Aside0.mk hy340
    clear hy340
    by_cases c5 : y340.length + l1.length < 8796093022208
    · rw [if_pos c5] at H
      have LMc5 := Aside0.mk c5
      clear c5
      obtain ⟨y343, hy343⟩ : ∃ y_ : List (S53), y_ = (y340 ++ l1) := ⟨_, rfl⟩
      replace H : ((goboref3_cuts.f k y343).bind fun t346 => (goboref3_pick.l0 k l0 l1 a2 t346 ([] : List (S35)) false 0)) = some r := by first | (rw [hy343]; with_reducible exact H) | (have H2_ := (Option.bind_some _ _).symm.trans H; rw [hy343]; with_reducible exact H2_) | (have H2_ := (Option.bind_some _ _).symm.trans H; with_reducible exact H2_) | with_reducible exact H | (rw [hy343]; exact H) | exact H
      have Ny343 := Aside0.mk hy343
      clear hy343
      replace H := Option.bind_eq_some_iff.mp H
      obtain ⟨t346, A60, H⟩ := H
      replace H : (goboref3_pick.l0 k l0 l1 a2 t346 ([] : List (S35)) false 0) = some r := H
      have A6 := Aside0.mk A60
      clear A60
      have H' := Aside0.mk H
      clear H
      go_enter Try.func32, Try.ntmps32
      go_wp2_with (first | ((with_reducible refine gate_dst (N := 16) rfl ?_); refine Kd.R_lit k53 _ 53 ?hg (N := 16) ?hd (xs := ([(⟨0, 1112064⟩ : S53)] : List (S53))) (inner := [.int .i64 0, .int .i64 1112064]) (ok := fun _ => True) (okp := fun _ => True) ?hr ?hp (fun _ hk => hk) trivial (Below.refl _ _) (Nat.le_refl _) (by simp) ?_; (case hd => rfl); (case hg => rfl); (case hr => first | (go_simp; done) | (go_simp; rfl)); (case hp => exact (Reps.c2 (show Kd.M k53 _ _ _ (⟨0, 1112064⟩ : S53) [.int .i64 0, .int .i64 1112064] from (k53_mkM _ _ _ (⟨0, 1112064⟩ : S53) )) (Reps.none _ _))); intro v338 w7 ho8 hb hg_ hnew_; clear hg_ hnew_; (first | rw [← Ny337.out] at ho8 | (simp only [Int.reduceToNat] at ho8; rw [← Ny337.out] at ho8)); have n0_ := Aside0.mk (Kd.R_lower ho8 (below_size (by repeat (first | (with_reducible first | exact HB.out | apply below_alloc | apply pw_below_drewN | apply below_drew1) | exact HB.out)))); have n1_ := Aside0.mk (below_step (by repeat (first | (with_reducible first | exact HB.out | apply below_alloc | apply pw_below_drewN | apply below_drew1) | exact HB.out)) hb); clear HB; have HO339 := n0_; have HB := n1_; clear n0_ n1_; clear hb ho8) | ((with_reducible refine gate_builtin (b := .append) (xs := #[.tmp 16, .tmp 17]) rfl ?_); at_builtin; refine Kd.R_append_rows k53 (w0 := w) w.heap.size rfl (.tmp 16) (.tmp 17) 43 53 (.agg #[(.int .i64 0), (.int .i64 0)]) 16 rfl Try.underlying43 info53 rfl (by decide) (by omega) v338 y337 l0 _ _ _ (fun _ => True) (fun _ => False) rfl rfl ?aO ?aR (fun _ _ h => h) (fun _ h => h.elim) ?aF ?aB ?aS ?aL ?_; (case aR => repeat (first | exact (Kd.C_below HR0.out HB.out) | (with_reducible refine Kd.C_alloc ?_ _) | (with_reducible refine Kd.C_drewN ?_ _) | (with_reducible refine Kd.C_drew ?_))); (case aB => exact (by repeat (first | (with_reducible first | exact HB.out | apply below_alloc | apply pw_below_drewN | apply below_drew1) | exact HB.out))); (case aF => exact (fun _ _ => trivial)); (case aO => exact (by (with_reducible repeat (first | apply Kd.R_alloc | apply Kd.R_drewN | apply Kd.R_drew)); exact HO339.out)); (case aS => exact (below_size (by repeat (first | (with_reducible first | exact HB.out | apply below_alloc | apply pw_below_drewN | apply below_drew1) | exact HB.out)))); (case aL => have := LMc4.out; omega); intro v341 w9 ho hb hg hat; rw [← Ny340.out] at ho; have n0_ := Aside0.mk (hb); have n1_ := Aside0.mk (ho); clear HB; clear HO339; have HB := n0_; have HO342 := n1_; clear n0_ n1_; clear ho hb hg hat) | ((with_reducible refine gate_builtin (b := .append) (xs := #[.tmp 18, .tmp 19]) rfl ?_); at_builtin; refine Kd.R_append_rows k53 (w0 := w) w.heap.size rfl (.tmp 18) (.tmp 19) 43 53 (.agg #[(.int .i64 0), (.int .i64 0)]) 16 rfl Try.underlying43 info53 rfl (by decide) (by omega) v341 y340 l1 _ _ _ (fun _ => True) (fun _ => False) rfl rfl ?aO ?aR (fun _ _ h => h) (fun _ h => h.elim) ?aF ?aB ?aS ?aL ?_; (case aR => repeat (first | exact (Kd.C_below HR1.out HB.out) | (with_reducible refine Kd.C_alloc ?_ _) | (with_reducible refine Kd.C_drewN ?_ _) | (with_reducible refine Kd.C_drew ?_))); (case aB => exact (by repeat (first | (with_reducible first | exact HB.out | apply below_alloc | apply pw_below_drewN | apply below_drew1) | exact HB.out))); (case aF => exact (fun _ _ => trivial)); (case aO => exact (by (with_reducible repeat (first | apply Kd.R_alloc | apply Kd.R_drewN | apply Kd.R_drew)); exact HO342.out)); (case aS => exact (below_size (by repeat (first | (with_reducible first | exact HB.out | apply below_alloc | apply pw_below_drewN | apply below_drew1) | exact HB.out)))); (case aL => have := LMc5.out; omega); intro v344 w10 ho hb hg hat; rw [← Ny343.out] at ho; have n0_ := Aside0.mk (hb); have n1_ := Aside0.mk (ho); clear HB; clear HO342; have HB := n0_; have HO345 := n1_; clear n0_ n1_; clear ho hb hg hat; obtain ⟨Ao11, co11, eo11⟩ := Kd.R_slice HO345.out; subst eo11) | (go_at_call 42; (with_reducible refine (goboref3_cuts.calls k _ _ y343 t346 _ ?side1 ?side2 A6.out).mono ?_); (case side1 => repeat (first | exact (Kd.R_reads' HO345.out).2.2 | (with_reducible refine Kd.C_alloc ?_ _) | (with_reducible refine Kd.C_drewN ?_ _) | (with_reducible refine Kd.C_drew ?_))); (case side2 => exact (Kd.R_reads' HO345.out).2.1); rintro e w12 ⟨v347, rfl, ho0, hb⟩; have n0_ := Aside0.mk (Kd.R_below (by (with_reducible repeat (first | apply Kd.R_alloc | apply Kd.R_drewN | apply Kd.R_drew)); exact HO345.out) hb); have n1_ := Aside0.mk (Kd.R_lower ho0 (below_size (by repeat (first | (with_reducible first | exact HB.out | apply below_alloc | apply pw_below_drewN | apply below_drew1) | exact HB.out)))); have n2_ := Aside0.mk (below_step (by repeat (first | (with_reducible first | exact HB.out | apply below_alloc | apply pw_below_drewN | apply below_drew1) | exact HB.out)) hb); clear HO345; clear HB; have HO345 := n0_; have HO348 := n1_; have HB := n2_; clear n0_ n1_ n2_; (try clear hb); (try clear hb2); (try clear hk); (try clear hi); (try clear ho0)))
      repeat (go_quiet (first | ((with_reducible refine gate_dst (N := 16) rfl ?_); refine Kd.R_lit k53 _ 53 ?hg (N := 16) ?hd (xs := ([(⟨0, 1112064⟩ : S53)] : List (S53))) (inner := [.int .i64 0, .int .i64 1112064]) (ok := fun _ => True) (okp := fun _ => True) ?hr ?hp (fun _ hk => hk) trivial (Below.refl _ _) (Nat.le_refl _) (by simp) ?_; (case hd => rfl); (case hg => rfl); (case hr => first | (go_simp; done) | (go_simp; rfl)); (case hp => exact (Reps.c2 (show Kd.M k53 _ _ _ (⟨0, 1112064⟩ : S53) [.int .i64 0, .int .i64 1112064] from (k53_mkM _ _ _ (⟨0, 1112064⟩ : S53) )) (Reps.none _ _))); intro v338 w7 ho8 hb hg_ hnew_; clear hg_ hnew_; (first | rw [← Ny337.out] at ho8 | (simp only [Int.reduceToNat] at ho8; rw [← Ny337.out] at ho8)); have n0_ := Aside0.mk (Kd.R_lower ho8 (below_size (by repeat (first | (with_reducible first | exact HB.out | apply below_alloc | apply pw_below_drewN | apply below_drew1) | exact HB.out)))); have n1_ := Aside0.mk (below_step (by repeat (first | (with_reducible first | exact HB.out | apply below_alloc | apply pw_below_drewN | apply below_drew1) | exact HB.out)) hb); clear HB; have HO339 := n0_; have HB := n1_; clear n0_ n1_; clear hb ho8) | ((with_reducible refine gate_builtin (b := .append) (xs := #[.tmp 16, .tmp 17]) rfl ?_); at_builtin; refine Kd.R_append_rows k53 (w0 := w) w.heap.size rfl (.tmp 16) (.tmp 17) 43 53 (.agg #[(.int .i64 0), (.int .i64 0)]) 16 rfl Try.underlying43 info53 rfl (by decide) (by omega) v338 y337 l0 _ _ _ (fun _ => True) (fun _ => False) rfl rfl ?aO ?aR (fun _ _ h => h) (fun _ h => h.elim) ?aF ?aB ?aS ?aL ?_; (case aR => repeat (first | exact (Kd.C_below HR0.out HB.out) | (with_reducible refine Kd.C_alloc ?_ _) | (with_reducible refine Kd.C_drewN ?_ _) | (with_reducible refine Kd.C_drew ?_))); (case aB => exact (by repeat (first | (with_reducible first | exact HB.out | apply below_alloc | apply pw_below_drewN | apply below_drew1) | exact HB.out))); (case aF => exact (fun _ _ => trivial)); (case aO => exact (by (with_reducible repeat (first | apply Kd.R_alloc | apply Kd.R_drewN | apply Kd.R_drew)); exact HO339.out)); (case aS => exact (below_size (by repeat (first | (with_reducible first | exact HB.out | apply below_alloc | apply pw_below_drewN | apply below_drew1) | exact HB.out)))); (case aL => have := LMc4.out; omega); intro v341 w9 ho hb hg hat; rw [← Ny340.out] at ho; have n0_ := Aside0.mk (hb); have n1_ := Aside0.mk (ho); clear HB; clear HO339; have HB := n0_; have HO342 := n1_; clear n0_ n1_; clear ho hb hg hat) | ((with_reducible refine gate_builtin (b := .append) (xs := #[.tmp 18, .tmp 19]) rfl ?_); at_builtin; refine Kd.R_append_rows k53 (w0 := w) w.heap.size rfl (.tmp 18) (.tmp 19) 43 53 (.agg #[(.int .i64 0), (.int .i64 0)]) 16 rfl Try.underlying43 info53 rfl (by decide) (by omega) v341 y340 l1 _ _ _ (fun _ => True) (fun _ => False) rfl rfl ?aO ?aR (fun _ _ h => h) (fun _ h => h.elim) ?aF ?aB ?aS ?aL ?_; (case aR => repeat (first | exact (Kd.C_below HR1.out HB.out) | (with_reducible refine Kd.C_alloc ?_ _) | (with_reducible refine Kd.C_drewN ?_ _) | (with_reducible refine Kd.C_drew ?_))); (case aB => exact (by repeat (first | (with_reducible first | exact HB.out | apply below_alloc | apply pw_below_drewN | apply below_drew1) | exact HB.out))); (case aF => exact (fun _ _ => trivial)); (case aO => exact (by (with_reducible repeat (first | apply Kd.R_alloc | apply Kd.R_drewN | apply Kd.R_drew)); exact HO342.out)); (case aS => exact (below_size (by repeat (first | (with_reducible first | exact HB.out | apply below_alloc | apply pw_below_drewN | apply below_drew1) | exact HB.out)))); (case aL => have := LMc5.out; omega); intro v344 w10 ho hb hg hat; rw [← Ny343.out] at ho; have n0_ := Aside0.mk (hb); have n1_ := Aside0.mk (ho); clear HB; clear HO342; have HB := n0_; have HO345 := n1_; clear n0_ n1_; clear ho hb hg hat; obtain ⟨Ao11, co11, eo11⟩ := Kd.R_slice HO345.out; subst eo11) | (go_at_call 42; (with_reducible refine (goboref3_cuts.calls k _ _ y343 t346 _ ?side1 ?side2 A6.out).mono ?_); (case side1 => repeat (first | exact (Kd.R_reads' HO345.out).2.2 | (with_reducible refine Kd.C_alloc ?_ _) | (with_reducible refine Kd.C_drewN ?_ _) | (with_reducible refine Kd.C_drew ?_))); (case side2 => exact (Kd.R_reads' HO345.out).2.1); rintro e w12 ⟨v347, rfl, ho0, hb⟩; have n0_ := Aside0.mk (Kd.R_below (by (with_reducible repeat (first | apply Kd.R_alloc | apply Kd.R_drewN | apply Kd.R_drew)); exact HO345.out) hb); have n1_ := Aside0.mk (Kd.R_lower ho0 (below_size (by repeat (first | (with_reducible first | exact HB.out | apply below_alloc | apply pw_below_drewN | apply below_drew1) | exact HB.out)))); have n2_ := Aside0.mk (below_step (by repeat (first | (with_reducible first | exact HB.out | apply below_alloc | apply pw_below_drewN | apply below_drew1) | exact HB.out)) hb); clear HO345; clear HB; have HO345 := n0_; have HO348 := n1_; have HB := n2_; clear n0_ n1_ n2_; (try clear hb); (try clear hb2); (try clear hk); (try clear hi); (try clear ho0))); try go_wp2_with (first | ((with_reducible refine gate_dst (N := 16) rfl ?_); refine Kd.R_lit k53 _ 53 ?hg (N := 16) ?hd (xs := ([(⟨0, 1112064⟩ : S53)] : List (S53))) (inner := [.int .i64 0, .int .i64 1112064]) (ok := fun _ => True) (okp := fun _ => True) ?hr ?hp (fun _ hk => hk) trivial (Below.refl _ _) (Nat.le_refl _) (by simp) ?_; (case hd => rfl); (case hg => rfl); (case hr => first | (go_simp; done) | (go_simp; rfl)); (case hp => exact (Reps.c2 (show Kd.M k53 _ _ _ (⟨0, 1112064⟩ : S53) [.int .i64 0, .int .i64 1112064] from (k53_mkM _ _ _ (⟨0, 1112064⟩ : S53) )) (Reps.none _ _))); intro v338 w7 ho8 hb hg_ hnew_; clear hg_ hnew_; (first | rw [← Ny337.out] at ho8 | (simp only [Int.reduceToNat] at ho8; rw [← Ny337.out] at ho8)); have n0_ := Aside0.mk (Kd.R_lower ho8 (below_size (by repeat (first | (with_reducible first | exact HB.out | apply below_alloc | apply pw_below_drewN | apply below_drew1) | exact HB.out)))); have n1_ := Aside0.mk (below_step (by repeat (first | (with_reducible first | exact HB.out | apply below_alloc | apply pw_below_drewN | apply below_drew1) | exact HB.out)) hb); clear HB; have HO339 := n0_; have HB := n1_; clear n0_ n1_; clear hb ho8) | ((with_reducible refine gate_builtin (b := .append) (xs := #[.tmp 16, .tmp 17]) rfl ?_); at_builtin; refine Kd.R_append_rows k53 (w0 := w) w.heap.size rfl (.tmp 16) (.tmp 17) 43 53 (.agg #[(.int .i64 0), (.int .i64 0)]) 16 rfl Try.underlying43 info53 rfl (by decide) (by omega) v338 y337 l0 _ _ _ (fun _ => True) (fun _ => False) rfl rfl ?aO ?aR (fun _ _ h => h) (fun _ h => h.elim) ?aF ?aB ?aS ?aL ?_; (case aR => repeat (first | exact (Kd.C_below HR0.out HB.out) | (with_reducible refine Kd.C_alloc ?_ _) | (with_reducible refine Kd.C_drewN ?_ _) | (with_reducible refine Kd.C_drew ?_))); (case aB => exact (by repeat (first | (with_reducible first | exact HB.out | apply below_alloc | apply pw_below_drewN | apply below_drew1) | exact HB.out))); (case aF => exact (fun _ _ => trivial)); (case aO => exact (by (with_reducible repeat (first | apply Kd.R_alloc | apply Kd.R_drewN | apply Kd.R_drew)); exact HO339.out)); (case aS => exact (below_size (by repeat (first | (with_reducible first | exact HB.out | apply below_alloc | apply pw_below_drewN | apply below_drew1) | exact HB.out)))); (case aL => have := LMc4.out; omega); intro v341 w9 ho hb hg hat; rw [← Ny340.out] at ho; have n0_ := Aside0.mk (hb); have n1_ := Aside0.mk (ho); clear HB; clear HO339; have HB := n0_; have HO342 := n1_; clear n0_ n1_; clear ho hb hg hat) | ((with_reducible refine gate_builtin (b := .append) (xs := #[.tmp 18, .tmp 19]) rfl ?_); at_builtin; refine Kd.R_append_rows k53 (w0 := w) w.heap.size rfl (.tmp 18) (.tmp 19) 43 53 (.agg #[(.int .i64 0), (.int .i64 0)]) 16 rfl Try.underlying43 info53 rfl (by decide) (by omega) v341 y340 l1 _ _ _ (fun _ => True) (fun _ => False) rfl rfl ?aO ?aR (fun _ _ h => h) (fun _ h => h.elim) ?aF ?aB ?aS ?aL ?_; (case aR => repeat (first | exact (Kd.C_below HR1.out HB.out) | (with_reducible refine Kd.C_alloc ?_ _) | (with_reducible refine Kd.C_drewN ?_ _) | (with_reducible refine Kd.C_drew ?_))); (case aB => exact (by repeat (first | (with_reducible first | exact HB.out | apply below_alloc | apply pw_below_drewN | apply below_drew1) | exact HB.out))); (case aF => exact (fun _ _ => trivial)); (case aO => exact (by (with_reducible repeat (first | apply Kd.R_alloc | apply Kd.R_drewN | apply Kd.R_drew)); exact HO342.out)); (case aS => exact (below_size (by repeat (first | (with_reducible first | exact HB.out | apply below_alloc | apply pw_below_drewN | apply below_drew1) | exact HB.out)))); (case aL => have := LMc5.out; omega); intro v344 w10 ho hb hg hat; rw [← Ny343.out] at ho; have n0_ := Aside0.mk (hb); have n1_ := Aside0.mk (ho); clear HB; clear HO342; have HB := n0_; have HO345 := n1_; clear n0_ n1_; clear ho hb hg hat; obtain ⟨Ao11, co11, eo11⟩ := Kd.R_slice HO345.out; subst eo11) | (go_at_call 42; (with_reducible refine (goboref3_cuts.calls k _ _ y343 t346 _ ?side1 ?side2 A6.out).mono ?_); (case side1 => repeat (first | exact (Kd.R_reads' HO345.out).2.2 | (with_reducible refine Kd.C_alloc ?_ _) | (with_reducible refine Kd.C_drewN ?_ _) | (with_reducible refine Kd.C_drew ?_))); (case side2 => exact (Kd.R_reads' HO345.out).2.1); rintro e w12 ⟨v347, rfl, ho0, hb⟩; have n0_ := Aside0.mk (Kd.R_below (by (with_reducible repeat (first | apply Kd.R_alloc | apply Kd.R_drewN | apply Kd.R_drew)); exact HO345.out) hb); have n1_ := Aside0.mk (Kd.R_lower ho0 (below_size (by repeat (first | (with_reducible first | exact HB.out | apply below_alloc | apply pw_below_drewN | apply below_drew1) | exact HB.out)))); have n2_ := Aside0.mk (below_step (by repeat (first | (with_reducible first | exact HB.out | apply below_alloc | apply pw_below_drewN | apply below_drew1) | exact HB.out)) hb); clear HO345; clear HB; have HO345 := n0_; have HO348 := n1_; have HB := n2_; clear n0_ n1_ n2_; (try clear hb); (try clear hb2); (try clear hk); (try clear hi); (try clear ho0))))
      go_loopg [9, 10, 11] k (fun kq v9 v10 v11 w' => ∃ (x9_1 : List (S35)) (x10_1 : Bool) (x11_1 : Int), v10 = .bool x10_1 ∧ v11 = .int .i64 x11_1 ∧ Aside0 (goboref3_pick.l0 kq l0 l1 a2 t346 x9_1 x10_1 x11_1 = some r) ∧ Aside0 (kq ≤ k) ∧ Aside0 (Kd.R (Kd.int .i64) 3 w' w.heap.size (fun _ => True) v347 t346) ∧ Aside0 (Kd.R k35 35 w' w.heap.size (fun _ => True) v9 x9_1) ∧ Aside0 (Below w.heap.size w w'))
      case atStart => exact ⟨(([] : List (S35))), (false), (0), (by first | rfl | (simp; done) | (simp [*]; done)), (by first | rfl | (simp; done) | (simp [*]; done)), H', ⟨Nat.le_refl _⟩, ⟨by (with_reducible repeat (first | apply Kd.R_alloc | apply Kd.R_drewN | apply Kd.R_drew)); exact HO348.out⟩, ⟨by first | exact Kd.R_nil _ _ _ _ _ | exact Kd.N_nil _ _ _ _ _ | exact Kd.V_nil _ _ _ _ _ | exact Kd.Q_nil _ _ _ _ _ | exact Kd.S_nil _ _ _ _ _⟩, ⟨by repeat (first | (with_reducible first | exact HB.out | apply below_alloc | apply pw_below_drewN | apply below_drew1) | exact HB.out)⟩⟩
      case round =>
        clear H'
        try clear c1
        try clear c2
        try clear p2
        try clear c3
        try clear c4
        try clear c5
        obtain ⟨x9_1, x10_1, x11_1, rfl, rfl, HA, HK1, HO_8, HO_9, HB⟩ := hrel
        cases gk with
        | zero => exact absurd HA.out (by simp [goboref3_pick.l0])
        | succ k1 =>
          have H := HA.out
          clear HA
          simp only [goboref3_pick.l0] at H
          by_cases c13 : (wrap64 (x11_1 + 1)) < (t346.length : Int)
          · rw [if_pos c13] at H
            have c13b0 : decide ((wrap64 (x11_1 + 1)) < (t346.length : Int)) = true := decide_eq_true c13
            clear c13
            by_cases c14 : 0 ≤ x11_1
            · rw [if_pos c14] at H
              have c14b0 : decide (0 ≤ x11_1) = true := decide_eq_true c14
              clear c14
              by_cases c15 : x11_1 < (t346.length : Int)
              · rw [if_pos c15] at H
                have c15b0 : decide (x11_1 < (t346.length : Int)) = true := decide_eq_true c15
                clear c15
                replace H := Option.bind_eq_some_iff.mp H
                obtain ⟨t350, A160, H⟩ := H
                replace H : ((goboref3_in.f k1 l1 (rd t346 x11_1)).bind fun t352 => (if a2 = 1 then (if t350 = true then (goboref3_pick.j1 k1 l0 l1 a2 t346 x9_1 x10_1 x11_1 true) else (if a2 = 2 then (if t352 = true then (goboref3_pick.j1 k1 l0 l1 a2 t346 x9_1 x10_1 x11_1 true) else (if a2 = 3 then (if a2 = 4 then (if a2 = 5 then (goboref3_pick.j1 k1 l0 l1 a2 t346 x9_1 x10_1 x11_1 (!t350)) else (goboref3_pick.j1 k1 l0 l1 a2 t346 x9_1 x10_1 x11_1 false)) else (if a2 = 5 then (goboref3_pick.j1 k1 l0 l1 a2 t346 x9_1 x10_1 x11_1 (!t350)) else (goboref3_pick.j1 k1 l0 l1 a2 t346 x9_1 x10_1 x11_1 false))) else (if a2 = 4 then (if a2 = 5 then (goboref3_pick.j1 k1 l0 l1 a2 t346 x9_1 x10_1 x11_1 (!t350)) else (goboref3_pick.j1 k1 l0 l1 a2 t346 x9_1 x10_1 x11_1 false)) else (if a2 = 5 then (goboref3_pick.j1 k1 l0 l1 a2 t346 x9_1 x10_1 x11_1 (!t350)) else (goboref3_pick.j1 k1 l0 l1 a2 t346 x9_1 x10_1 x11_1 false))))) else (if a2 = 3 then (if t352 = true then (goboref3_pick.j1 k1 l0 l1 a2 t346 x9_1 x10_1 x11_1 true) else (if a2 = 4 then (if a2 = 5 then (goboref3_pick.j1 k1 l0 l1 a2 t346 x9_1 x10_1 x11_1 (!t350)) else (goboref3_pick.j1 k1 l0 l1 a2 t346 x9_1 x10_1 x11_1 false)) else (if a2 = 5 then (goboref3_pick.j1 k1 l0 l1 a2 t346 x9_1 x10_1 x11_1 (!t350)) else (goboref3_pick.j1 k1 l0 l1 a2 t346 x9_1 x10_1 x11_1 false)))) else (if a2 = 4 then (if a2 = 5 then (goboref3_pick.j1 k1 l0 l1 a2 t346 x9_1 x10_1 x11_1 (!t350)) else (goboref3_pick.j1 k1 l0 l1 a2 t346 x9_1 x10_1 x11_1 false)) else (if a2 = 5 then (goboref3_pick.j1 k1 l0 l1 a2 t346 x9_1 x10_1 x11_1 (!t350)) else (goboref3_pick.j1 k1 l0 l1 a2 t346 x9_1 x10_1 x11_1 false)))))) else (if a2 = 2 then (if t352 = true then (goboref3_pick.j1 k1 l0 l1 a2 t346 x9_1 x10_1 x11_1 true) else (if a2 = 3 then (if t350 = true then (goboref3_pick.j1 k1 l0 l1 a2 t346 x9_1 x10_1 x11_1 true) else (if a2 = 4 then (if a2 = 5 then (goboref3_pick.j1 k1 l0 l1 a2 t346 x9_1 x10_1 x11_1 (!t350)) else (goboref3_pick.j1 k1 l0 l1 a2 t346 x9_1 x10_1 x11_1 false)) else (if a2 = 5 then (goboref3_pick.j1 k1 l0 l1 a2 t346 x9_1 x10_1 x11_1 (!t350)) else (goboref3_pick.j1 k1 l0 l1 a2 t346 x9_1 x10_1 x11_1 false)))) else (if a2 = 4 then (if t350 = true then (if a2 = 5 then (goboref3_pick.j1 k1 l0 l1 a2 t346 x9_1 x10_1 x11_1 (!t350)) else (goboref3_pick.j1 k1 l0 l1 a2 t346 x9_1 x10_1 x11_1 false)) else (if a2 = 5 then (goboref3_pick.j1 k1 l0 l1 a2 t346 x9_1 x10_1 x11_1 (!t350)) else (goboref3_pick.j1 k1 l0 l1 a2 t346 x9_1 x10_1 x11_1 false))) else (if a2 = 5 then (goboref3_pick.j1 k1 l0 l1 a2 t346 x9_1 x10_1 x11_1 (!t350)) else (goboref3_pick.j1 k1 l0 l1 a2 t346 x9_1 x10_1 x11_1 false))))) else (if a2 = 3 then (if t350 = true then (goboref3_pick.j1 k1 l0 l1 a2 t346 x9_1 x10_1 x11_1 true) else (if t352 = true then (goboref3_pick.j1 k1 l0 l1 a2 t346 x9_1 x10_1 x11_1 true) else (if a2 = 4 then (if a2 = 5 then (goboref3_pick.j1 k1 l0 l1 a2 t346 x9_1 x10_1 x11_1 (!t350)) else (goboref3_pick.j1 k1 l0 l1 a2 t346 x9_1 x10_1 x11_1 false)) else (if a2 = 5 then (goboref3_pick.j1 k1 l0 l1 a2 t346 x9_1 x10_1 x11_1 (!t350)) else (goboref3_pick.j1 k1 l0 l1 a2 t346 x9_1 x10_1 x11_1 false))))) else (if a2 = 4 then (if t350 = true then (if t352 = true then (goboref3_pick.j1 k1 l0 l1 a2 t346 x9_1 x10_1 x11_1 true) else (if a2 = 5 then (goboref3_pick.j1 k1 l0 l1 a2 t346 x9_1 x10_1 x11_1 (!t350)) else (goboref3_pick.j1 k1 l0 l1 a2 t346 x9_1 x10_1 x11_1 false))) else (if a2 = 5 then (goboref3_pick.j1 k1 l0 l1 a2 t346 x9_1 x10_1 x11_1 (!t350)) else (goboref3_pick.j1 k1 l0 l1 a2 t346 x9_1 x10_1 x11_1 false))) else (if a2 = 5 then (goboref3_pick.j1 k1 l0 l1 a2 t346 x9_1 x10_1 x11_1 (!t350)) else (goboref3_pick.j1 k1 l0 l1 a2 t346 x9_1 x10_1 x11_1 false))))))) = some r := H
                have A16 := Aside0.mk A160
                clear A160
                replace H := Option.bind_eq_some_iff.mp H
                obtain ⟨t352, A170, H⟩ := H
                replace H : (if a2 = 1 then (if t350 = true then (goboref3_pick.j1 k1 l0 l1 a2 t346 x9_1 x10_1 x11_1 true) else (if a2 = 2 then (if t352 = true then (goboref3_pick.j1 k1 l0 l1 a2 t346 x9_1 x10_1 x11_1 true) else (if a2 = 3 then (if a2 = 4 then (if a2 = 5 then (goboref3_pick.j1 k1 l0 l1 a2 t346 x9_1 x10_1 x11_1 (!t350)) else (goboref3_pick.j1 k1 l0 l1 a2 t346 x9_1 x10_1 x11_1 false)) else (if a2 = 5 then (goboref3_pick.j1 k1 l0 l1 a2 t346 x9_1 x10_1 x11_1 (!t350)) else (goboref3_pick.j1 k1 l0 l1 a2 t346 x9_1 x10_1 x11_1 false))) else (if a2 = 4 then (if a2 = 5 then (goboref3_pick.j1 k1 l0 l1 a2 t346 x9_1 x10_1 x11_1 (!t350)) else (goboref3_pick.j1 k1 l0 l1 a2 t346 x9_1 x10_1 x11_1 false)) else (if a2 = 5 then (goboref3_pick.j1 k1 l0 l1 a2 t346 x9_1 x10_1 x11_1 (!t350)) else (goboref3_pick.j1 k1 l0 l1 a2 t346 x9_1 x10_1 x11_1 false))))) else (if a2 = 3 then (if t352 = true then (goboref3_pick.j1 k1 l0 l1 a2 t346 x9_1 x10_1 x11_1 true) else (if a2 = 4 then (if a2 = 5 then (goboref3_pick.j1 k1 l0 l1 a2 t346 x9_1 x10_1 x11_1 (!t350)) else (goboref3_pick.j1 k1 l0 l1 a2 t346 x9_1 x10_1 x11_1 false)) else (if a2 = 5 then (goboref3_pick.j1 k1 l0 l1 a2 t346 x9_1 x10_1 x11_1 (!t350)) else (goboref3_pick.j1 k1 l0 l1 a2 t346 x9_1 x10_1 x11_1 false)))) else (if a2 = 4 then (if a2 = 5 then (goboref3_pick.j1 k1 l0 l1 a2 t346 x9_1 x10_1 x11_1 (!t350)) else (goboref3_pick.j1 k1 l0 l1 a2 t346 x9_1 x10_1 x11_1 false)) else (if a2 = 5 then (goboref3_pick.j1 k1 l0 l1 a2 t346 x9_1 x10_1 x11_1 (!t350)) else (goboref3_pick.j1 k1 l0 l1 a2 t346 x9_1 x10_1 x11_1 false)))))) else (if a2 = 2 then (if t352 = true then (goboref3_pick.j1 k1 l0 l1 a2 t346 x9_1 x10_1 x11_1 true) else (if a2 = 3 then (if t350 = true then (goboref3_pick.j1 k1 l0 l1 a2 t346 x9_1 x10_1 x11_1 true) else (if a2 = 4 then (if a2 = 5 then (goboref3_pick.j1 k1 l0 l1 a2 t346 x9_1 x10_1 x11_1 (!t350)) else (goboref3_pick.j1 k1 l0 l1 a2 t346 x9_1 x10_1 x11_1 false)) else (if a2 = 5 then (goboref3_pick.j1 k1 l0 l1 a2 t346 x9_1 x10_1 x11_1 (!t350)) else (goboref3_pick.j1 k1 l0 l1 a2 t346 x9_1 x10_1 x11_1 false)))) else (if a2 = 4 then (if t350 = true then (if a2 = 5 then (goboref3_pick.j1 k1 l0 l1 a2 t346 x9_1 x10_1 x11_1 (!t350)) else (goboref3_pick.j1 k1 l0 l1 a2 t346 x9_1 x10_1 x11_1 false)) else (if a2 = 5 then (goboref3_pick.j1 k1 l0 l1 a2 t346 x9_1 x10_1 x11_1 (!t350)) else (goboref3_pick.j1 k1 l0 l1 a2 t346 x9_1 x10_1 x11_1 false))) else (if a2 = 5 then (goboref3_pick.j1 k1 l0 l1 a2 t346 x9_1 x10_1 x11_1 (!t350)) else (goboref3_pick.j1 k1 l0 l1 a2 t346 x9_1 x10_1 x11_1 false))))) else (if a2 = 3 then (if t350 = true then (goboref3_pick.j1 k1 l0 l1 a2 t346 x9_1 x10_1 x11_1 true) else (if t352 = true then (goboref3_pick.j1 k1 l0 l1 a2 t346 x9_1 x10_1 x11_1 true) else (if a2 = 4 then (if a2 = 5 then (goboref3_pick.j1 k1 l0 l1 a2 t346 x9_1 x10_1 x11_1 (!t350)) else (goboref3_pick.j1 k1 l0 l1 a2 t346 x9_1 x10_1 x11_1 false)) else (if a2 = 5 then (goboref3_pick.j1 k1 l0 l1 a2 t346 x9_1 x10_1 x11_1 (!t350)) else (goboref3_pick.j1 k1 l0 l1 a2 t346 x9_1 x10_1 x11_1 false))))) else (if a2 = 4 then (if t350 = true then (if t352 = true then (goboref3_pick.j1 k1 l0 l1 a2 t346 x9_1 x10_1 x11_1 true) else (if a2 = 5 then (goboref3_pick.j1 k1 l0 l1 a2 t346 x9_1 x10_1 x11_1 (!t350)) else (goboref3_pick.j1 k1 l0 l1 a2 t346 x9_1 x10_1 x11_1 false))) else (if a2 = 5 then (goboref3_pick.j1 k1 l0 l1 a2 t346 x9_1 x10_1 x11_1 (!t350)) else (goboref3_pick.j1 k1 l0 l1 a2 t346 x9_1 x10_1 x11_1 false))) else (if a2 = 5 then (goboref3_pick.j1 k1 l0 l1 a2 t346 x9_1 x10_1 x11_1 (!t350)) else (goboref3_pick.j1 k1 l0 l1 a2 t346 x9_1 x10_1 x11_1 false)))))) = some r := H
                have A17 := Aside0.mk A170
                clear A170
                have HC18 := Aside0.mk H
                clear H
                obtain ⟨Ao19, co19, eo19⟩ := Kd.R_slice HO_8.out
                subst eo19
                have p349 : 0 ≤ (x11_1 : Int) := of_decide_eq_true (by first | (with_reducible assumption) | assumption)
                have q349 : x11_1 < (t346.length : Int) := of_decide_eq_true (by first | (with_reducible assumption) | assumption)
                obtain ⟨ad349, e349, hx349_0⟩ := Kd.at_int (Kd.R_reads' HO_8.out).2.2 x11_1 p349 q349
                cases e349
                replace p349 := eq_true p349
                replace q349 := eq_true q349
                go_upto_region 9 with (first | (go_at_call 43; (with_reducible refine (goboref3_in.calls k1 _ _ l0 (rd t346 x11_1) t350 _ ?side1 ?side2 A16.out).mono ?_); (case side1 => repeat (first | exact (Kd.C_below HR0.out HB.out) | (with_reducible refine Kd.C_alloc ?_ _) | (with_reducible refine Kd.C_drewN ?_ _) | (with_reducible refine Kd.C_drew ?_))); (case side2 => exact HC0.out); rintro e w' ⟨rfl, ⟨nd, rfl⟩⟩; (first | exact ⟨rfl, _, World.drewN_drewN _ _ _⟩ | exact ⟨rfl, _, Eq.trans (World.drewN_drewN _ _ _) (congrArg (World.drewN _) (Nat.add_assoc _ _ _))⟩ | (have p351 : 0 ≤ (x11_1 : Int) := of_decide_eq_true (by first | (with_reducible assumption) | assumption); have q351 : x11_1 < (t346.length : Int) := of_decide_eq_true (by first | (with_reducible assumption) | assumption); obtain ⟨ad351, e351, hx351_0⟩ := Kd.at_int (Kd.R_reads' HO_8.out).2.2 x11_1 p351 q351; obtain rfl : ad349 = ad351 := (by injection e351); replace p351 := eq_true p351; replace q351 := eq_true q351))) | (go_at_call 43; (with_reducible refine (goboref3_in.calls k1 _ _ l1 (rd t346 x11_1) t352 _ ?side1 ?side2 A17.out).mono ?_); (case side1 => repeat (first | exact (Kd.C_below HR1.out (by repeat (first | (with_reducible first | exact HB.out | apply below_alloc | apply pw_below_drewN | apply below_drew1) | exact HB.out))) | (with_reducible refine Kd.C_alloc ?_ _) | (with_reducible refine Kd.C_drewN ?_ _) | (with_reducible refine Kd.C_drew ?_))); (case side2 => exact HC1.out); rintro e w' ⟨rfl, ⟨nd, rfl⟩⟩; (try first | exact ⟨rfl, _, World.drewN_drewN _ _ _⟩ | exact ⟨rfl, _, Eq.trans (World.drewN_drewN _ _ _) (congrArg (World.drewN _) (Nat.add_assoc _ _ _))⟩)))
                repeat (go_quiet (first | (go_at_call 43; (with_reducible refine (goboref3_in.calls k1 _ _ l0 (rd t346 x11_1) t350 _ ?side1 ?side2 A16.out).mono ?_); (case side1 => repeat (first | exact (Kd.C_below HR0.out HB.out) | (with_reducible refine Kd.C_alloc ?_ _) | (with_reducible refine Kd.C_drewN ?_ _) | (with_reducible refine Kd.C_drew ?_))); (case side2 => exact HC0.out); rintro e w' ⟨rfl, ⟨nd, rfl⟩⟩; (first | exact ⟨rfl, _, World.drewN_drewN _ _ _⟩ | exact ⟨rfl, _, Eq.trans (World.drewN_drewN _ _ _) (congrArg (World.drewN _) (Nat.add_assoc _ _ _))⟩ | (have p351 : 0 ≤ (x11_1 : Int) := of_decide_eq_true (by first | (with_reducible assumption) | assumption); have q351 : x11_1 < (t346.length : Int) := of_decide_eq_true (by first | (with_reducible assumption) | assumption); obtain ⟨ad351, e351, hx351_0⟩ := Kd.at_int (Kd.R_reads' HO_8.out).2.2 x11_1 p351 q351; obtain rfl : ad349 = ad351 := (by injection e351); replace p351 := eq_true p351; replace q351 := eq_true q351))) | (go_at_call 43; (with_reducible refine (goboref3_in.calls k1 _ _ l1 (rd t346 x11_1) t352 _ ?side1 ?side2 A17.out).mono ?_); (case side1 => repeat (first | exact (Kd.C_below HR1.out (by repeat (first | (with_reducible first | exact HB.out | apply below_alloc | apply pw_below_drewN | apply below_drew1) | exact HB.out))) | (with_reducible refine Kd.C_alloc ?_ _) | (with_reducible refine Kd.C_drewN ?_ _) | (with_reducible refine Kd.C_drew ?_))); (case side2 => exact HC1.out); rintro e w' ⟨rfl, ⟨nd, rfl⟩⟩; (try first | exact ⟨rfl, _, World.drewN_drewN _ _ _⟩ | exact ⟨rfl, _, Eq.trans (World.drewN_drewN _ _ _) (congrArg (World.drewN _) (Nat.add_assoc _ _ _))⟩))); go_upto_region 9 with (first | (go_at_call 43; (with_reducible refine (goboref3_in.calls k1 _ _ l0 (rd t346 x11_1) t350 _ ?side1 ?side2 A16.out).mono ?_); (case side1 => repeat (first | exact (Kd.C_below HR0.out HB.out) | (with_reducible refine Kd.C_alloc ?_ _) | (with_reducible refine Kd.C_drewN ?_ _) | (with_reducible refine Kd.C_drew ?_))); (case side2 => exact HC0.out); rintro e w' ⟨rfl, ⟨nd, rfl⟩⟩; (first | exact ⟨rfl, _, World.drewN_drewN _ _ _⟩ | exact ⟨rfl, _, Eq.trans (World.drewN_drewN _ _ _) (congrArg (World.drewN _) (Nat.add_assoc _ _ _))⟩ | (have p351 : 0 ≤ (x11_1 : Int) := of_decide_eq_true (by first | (with_reducible assumption) | assumption); have q351 : x11_1 < (t346.length : Int) := of_decide_eq_true (by first | (with_reducible assumption) | assumption); obtain ⟨ad351, e351, hx351_0⟩ := Kd.at_int (Kd.R_reads' HO_8.out).2.2 x11_1 p351 q351; obtain rfl : ad349 = ad351 := (by injection e351); replace p351 := eq_true p351; replace q351 := eq_true q351))) | (go_at_call 43; (with_reducible refine (goboref3_in.calls k1 _ _ l1 (rd t346 x11_1) t352 _ ?side1 ?side2 A17.out).mono ?_); (case side1 => repeat (first | exact (Kd.C_below HR1.out (by repeat (first | (with_reducible first | exact HB.out | apply below_alloc | apply pw_below_drewN | apply below_drew1) | exact HB.out))) | (with_reducible refine Kd.C_alloc ?_ _) | (with_reducible refine Kd.C_drewN ?_ _) | (with_reducible refine Kd.C_drew ?_))); (case side2 => exact HC1.out); rintro e w' ⟨rfl, ⟨nd, rfl⟩⟩; (try first | exact ⟨rfl, _, World.drewN_drewN _ _ _⟩ | exact ⟨rfl, _, Eq.trans (World.drewN_drewN _ _ _) (congrArg (World.drewN _) (Nat.add_assoc _ _ _))⟩))))
                (try simp only [Act.put, List.setIfInBounds_toArray, List.set_cons_zero, List.set_cons_succ])
                go_cut [14] (fun v14 wc => ∃ (kq : Nat) (x14_17 : Bool), v14 = .bool x14_17 ∧ Aside0 (goboref3_pick.j1 kq l0 l1 a2 t346 x9_1 x10_1 x11_1 x14_17 = some r) ∧ Aside0 (kq ≤ k1) ∧ Aside0 (Kd.R (Kd.int .i64) 3 wc w.heap.size (fun _ => True) (.slice (some ad349) t346.length co19) t346) ∧ Aside0 (Kd.R k35 35 wc w.heap.size (fun _ => True) u9 x9_1) ∧ Aside0 (Below w.heap.size w wc))
                case first =>
                  have H := HC18.out
                  clear HC18
                  by_cases c20 : a2 = 1
                  · rw [if_pos c20] at H
                    have c20b0 : (a2 == 1) = true := beq_iff_eq.mpr c20
                    have c20b1 : (a2 != 1) = false := bne_eq_false_iff_eq.mpr c20
                    clear c20
                    (first | rw [c20b0] | (simp only [i64_w, i32_w]; rw [c20b0]) | skip)
                    by_cases c21 : t350 = true
                    · subst c21
                      have H1 : (goboref3_pick.j1 k1 l0 l1 a2 t346 x9_1 x10_1 x11_1 true) = some r := by rw [if_pos rfl] at H; exact H
                      clear H
                      have H := H1
                      clear H1
                      have H' := Aside0.mk H
                      clear H
                      go_wp2
                      repeat (go_quiet (fail); try go_wp2)
                      go_meet
                      case rel => exact ⟨_, (true), (by first | rfl | (simp; done) | (simp [*]; done)), H', ⟨by have := HK1.out; first | omega | exact Nat.le_refl _⟩, ⟨by (with_reducible repeat (first | apply Kd.R_alloc | apply Kd.R_drewN | apply Kd.R_drew)); exact HO_8.out⟩, ⟨by (with_reducible repeat (first | apply Kd.R_alloc | apply Kd.R_drewN | apply Kd.R_drew)); exact HO_9.out⟩, ⟨by repeat (first | (with_reducible first | exact HB.out | apply below_alloc | apply pw_below_drewN | apply below_drew1) | exact HB.out)⟩⟩
                    · replace c21 := Bool.eq_false_iff.mpr c21
                      subst c21
                      have H1 : (if a2 = 2 then (if t352 = true then (goboref3_pick.j1 k1 l0 l1 a2 t346 x9_1 x10_1 x11_1 true) else (if a2 = 3 then (if a2 = 4 then (if a2 = 5 then (goboref3_pick.j1 k1 l0 l1 a2 t346 x9_1 x10_1 x11_1 (!false)) else (goboref3_pick.j1 k1 l0 l1 a2 t346 x9_1 x10_1 x11_1 false)) else (if a2 = 5 then (goboref3_pick.j1 k1 l0 l1 a2 t346 x9_1 x10_1 x11_1 (!false)) else (goboref3_pick.j1 k1 l0 l1 a2 t346 x9_1 x10_1 x11_1 false))) else (if a2 = 4 then (if a2 = 5 then (goboref3_pick.j1 k1 l0 l1 a2 t346 x9_1 x10_1 x11_1 (!false)) else (goboref3_pick.j1 k1 l0 l1 a2 t346 x9_1 x10_1 x11_1 false)) else (if a2 = 5 then (goboref3_pick.j1 k1 l0 l1 a2 t346 x9_1 x10_1 x11_1 (!false)) else (goboref3_pick.j1 k1 l0 l1 a2 t346 x9_1 x10_1 x11_1 false))))) else (if a2 = 3 then (if t352 = true then (goboref3_pick.j1 k1 l0 l1 a2 t346 x9_1 x10_1 x11_1 true) else (if a2 = 4 then (if a2 = 5 then (goboref3_pick.j1 k1 l0 l1 a2 t346 x9_1 x10_1 x11_1 (!false)) else (goboref3_pick.j1 k1 l0 l1 a2 t346 x9_1 x10_1 x11_1 false)) else (if a2 = 5 then (goboref3_pick.j1 k1 l0 l1 a2 t346 x9_1 x10_1 x11_1 (!false)) else (goboref3_pick.j1 k1 l0 l1 a2 t346 x9_1 x10_1 x11_1 false)))) else (if a2 = 4 then (if a2 = 5 then (goboref3_pick.j1 k1 l0 l1 a2 t346 x9_1 x10_1 x11_1 (!false)) else (goboref3_pick.j1 k1 l0 l1 a2 t346 x9_1 x10_1 x11_1 false)) else (if a2 = 5 then (goboref3_pick.j1 k1 l0 l1 a2 t346 x9_1 x10_1 x11_1 (!false)) else (goboref3_pick.j1 k1 l0 l1 a2 t346 x9_1 x10_1 x11_1 false))))) = some r := by rw [if_neg (show ¬ (false = true) by decide)] at H; exact H
                      clear H
                      have H := H1
                      clear H1
                      by_cases c22 : a2 = 2
                      · rw [if_pos c22] at H
                        have c22b0 : (a2 == 2) = true := beq_iff_eq.mpr c22
                        have c22b1 : (a2 != 2) = false := bne_eq_false_iff_eq.mpr c22
                        clear c22
                        by_cases c23 : t352 = true
                        · subst c23
                          have H1 : (goboref3_pick.j1 k1 l0 l1 a2 t346 x9_1 x10_1 x11_1 true) = some r := by rw [if_pos rfl] at H; exact H
                          clear H
                          have H := H1
                          clear H1
                          have H' := Aside0.mk H
                          clear H
                          go_wp2
                          repeat (go_quiet (fail); try go_wp2)
                          go_meet
                          case rel => exact ⟨_, (true), (by first | rfl | (simp; done) | (simp [*]; done)), H', ⟨by have := HK1.out; first | omega | exact Nat.le_refl _⟩, ⟨by (with_reducible repeat (first | apply Kd.R_alloc | apply Kd.R_drewN | apply Kd.R_drew)); exact HO_8.out⟩, ⟨by (with_reducible repeat (first | apply Kd.R_alloc | apply Kd.R_drewN | apply Kd.R_drew)); exact HO_9.out⟩, ⟨by repeat (first | (with_reducible first | exact HB.out | apply below_alloc | apply pw_below_drewN | apply below_drew1) | exact HB.out)⟩⟩
                        · replace c23 := Bool.eq_false_iff.mpr c23
                          subst c23
                          have H1 : (if a2 = 3 then (if a2 = 4 then (if a2 = 5 then (goboref3_pick.j1 k1 l0 l1 a2 t346 x9_1 x10_1 x11_1 (!false)) else (goboref3_pick.j1 k1 l0 l1 a2 t346 x9_1 x10_1 x11_1 false)) else (if a2 = 5 then (goboref3_pick.j1 k1 l0 l1 a2 t346 x9_1 x10_1 x11_1 (!false)) else (goboref3_pick.j1 k1 l0 l1 a2 t346 x9_1 x10_1 x11_1 false))) else (if a2 = 4 then (if a2 = 5 then (goboref3_pick.j1 k1 l0 l1 a2 t346 x9_1 x10_1 x11_1 (!false)) else (goboref3_pick.j1 k1 l0 l1 a2 t346 x9_1 x10_1 x11_1 false)) else (if a2 = 5 then (goboref3_pick.j1 k1 l0 l1 a2 t346 x9_1 x10_1 x11_1 (!false)) else (goboref3_pick.j1 k1 l0 l1 a2 t346 x9_1 x10_1 x11_1 false)))) = some r := by rw [if_neg (show ¬ (false = true) by decide)] at H; exact H
                          clear H
                          have H := H1
                          clear H1
                          by_cases c24 : a2 = 3
                          · rw [if_pos c24] at H
                            have c24b0 : (a2 == 3) = true := beq_iff_eq.mpr c24
                            have c24b1 : (a2 != 3) = false := bne_eq_false_iff_eq.mpr c24
                            clear c24
                            by_cases c25 : a2 = 4
                            · rw [if_pos c25] at H
                              have c25b0 : (a2 == 4) = true := beq_iff_eq.mpr c25
                              have c25b1 : (a2 != 4) = false := bne_eq_false_iff_eq.mpr c25
                              clear c25
                              by_cases c26 : a2 = 5
                              · rw [if_pos c26] at H
                                have c26b0 : (a2 == 5) = true := beq_iff_eq.mpr c26
                                have c26b1 : (a2 != 5) = false := bne_eq_false_iff_eq.mpr c26
                                clear c26
                                have H' := Aside0.mk H
                                clear H
                                go_wp2
                                repeat (go_quiet (fail); try go_wp2)
                                go_meet
                                case rel => exact ⟨_, (!false), (by first | rfl | (simp; done) | (simp [*]; done)), H', ⟨by have := HK1.out; first | omega | exact Nat.le_refl _⟩, ⟨by (with_reducible repeat (first | apply Kd.R_alloc | apply Kd.R_drewN | apply Kd.R_drew)); exact HO_8.out⟩, ⟨by (with_reducible repeat (first | apply Kd.R_alloc | apply Kd.R_drewN | apply Kd.R_drew)); exact HO_9.out⟩, ⟨by repeat (first | (with_reducible first | exact HB.out | apply below_alloc | apply pw_below_drewN | apply below_drew1) | exact HB.out)⟩⟩
                              · rw [if_neg c26] at H
                                have c26b0 : (a2 == 5) = false := beq_eq_false_iff_ne.mpr c26
                                have c26b1 : (a2 != 5) = true := bne_iff_ne.mpr c26
                                have H' := Aside0.mk H
                                clear H
                                go_wp2
                                repeat (go_quiet (fail); try go_wp2)
                                go_meet
                                case rel => exact ⟨_, (false), (by first | rfl | (simp; done) | (simp [*]; done)), H', ⟨by have := HK1.out; first | omega | exact Nat.le_refl _⟩, ⟨by (with_reducible repeat (first | apply Kd.R_alloc | apply Kd.R_drewN | apply Kd.R_drew)); exact HO_8.out⟩, ⟨by (with_reducible repeat (first | apply Kd.R_alloc | apply Kd.R_drewN | apply Kd.R_drew)); exact HO_9.out⟩, ⟨by repeat (first | (with_reducible first | exact HB.out | apply below_alloc | apply pw_below_drewN | apply below_drew1) | exact HB.out)⟩⟩
                            · rw [if_neg c25] at H
                              have c25b0 : (a2 == 4) = false := beq_eq_false_iff_ne.mpr c25
                              have c25b1 : (a2 != 4) = true := bne_iff_ne.mpr c25
                              by_cases c27 : a2 = 5
                              · rw [if_pos c27] at H
                                have c27b0 : (a2 == 5) = true := beq_iff_eq.mpr c27
                                have c27b1 : (a2 != 5) = false := bne_eq_false_iff_eq.mpr c27
                                clear c27
                                have H' := Aside0.mk H
                                clear H
                                go_wp2
                                repeat (go_quiet (fail); try go_wp2)
                                go_meet
                                case rel => exact ⟨_, (!false), (by first | rfl | (simp; done) | (simp [*]; done)), H', ⟨by have := HK1.out; first | omega | exact Nat.le_refl _⟩, ⟨by (with_reducible repeat (first | apply Kd.R_alloc | apply Kd.R_drewN | apply Kd.R_drew)); exact HO_8.out⟩, ⟨by (with_reducible repeat (first | apply Kd.R_alloc | apply Kd.R_drewN | apply Kd.R_drew)); exact HO_9.out⟩, ⟨by repeat (first | (with_reducible first | exact HB.out | apply below_alloc | apply pw_below_drewN | apply below_drew1) | exact HB.out)⟩⟩
                              · rw [if_neg c27] at H
                                have c27b0 : (a2 == 5) = false := beq_eq_false_iff_ne.mpr c27
                                have c27b1 : (a2 != 5) = true := bne_iff_ne.mpr c27
                                have H' := Aside0.mk H
                                clear H
                                go_wp2
                                repeat (go_quiet (fail); try go_wp2)
                                go_meet
                                case rel => exact ⟨_, (false), (by first | rfl | (simp; done) | (simp [*]; done)), H', ⟨by have := HK1.out; first | omega | exact Nat.le_refl _⟩, ⟨by (with_reducible repeat (first | apply Kd.R_alloc | apply Kd.R_drewN | apply Kd.R_drew)); exact HO_8.out⟩, ⟨by (with_reducible repeat (first | apply Kd.R_alloc | apply Kd.R_drewN | apply Kd.R_drew)); exact HO_9.out⟩, ⟨by repeat (first | (with_reducible first | exact HB.out | apply below_alloc | apply pw_below_drewN | apply below_drew1) | exact HB.out)⟩⟩
                          · rw [if_neg c24] at H
                            have c24b0 : (a2 == 3) = false := beq_eq_false_iff_ne.mpr c24
                            have c24b1 : (a2 != 3) = true := bne_iff_ne.mpr c24
                            by_cases c28 : a2 = 4
                            · rw [if_pos c28] at H
                              have c28b0 : (a2 == 4) = true := beq_iff_eq.mpr c28
                              have c28b1 : (a2 != 4) = false := bne_eq_false_iff_eq.mpr c28
                              clear c28
                              by_cases c29 : a2 = 5
                              · rw [if_pos c29] at H
                                have c29b0 : (a2 == 5) = true := beq_iff_eq.mpr c29
                                have c29b1 : (a2 != 5) = false := bne_eq_false_iff_eq.mpr c29
                                clear c29
                                have H' := Aside0.mk H
                                clear H
                                go_wp2
                                repeat (go_quiet (fail); try go_wp2)
                                go_meet
                                case rel => exact ⟨_, (!false), (by first | rfl | (simp; done) | (simp [*]; done)), H', ⟨by have := HK1.out; first | omega | exact Nat.le_refl _⟩, ⟨by (with_reducible repeat (first | apply Kd.R_alloc | apply Kd.R_drewN | apply Kd.R_drew)); exact HO_8.out⟩, ⟨by (with_reducible repeat (first | apply Kd.R_alloc | apply Kd.R_drewN | apply Kd.R_drew)); exact HO_9.out⟩, ⟨by repeat (first | (with_reducible first | exact HB.out | apply below_alloc | apply pw_below_drewN | apply below_drew1) | exact HB.out)⟩⟩
                              · rw [if_neg c29] at H
                                have c29b0 : (a2 == 5) = false := beq_eq_false_iff_ne.mpr c29
                                have c29b1 : (a2 != 5) = true := bne_iff_ne.mpr c29
                                have H' := Aside0.mk H
                                clear H
                                go_wp2
                                repeat (go_quiet (fail); try go_wp2)
                                go_meet
                                case rel => exact ⟨_, (false), (by first | rfl | (simp; done) | (simp [*]; done)), H', ⟨by have := HK1.out; first | omega | exact Nat.le_refl _⟩, ⟨by (with_reducible repeat (first | apply Kd.R_alloc | apply Kd.R_drewN | apply Kd.R_drew)); exact HO_8.out⟩, ⟨by (with_reducible repeat (first | apply Kd.R_alloc | apply Kd.R_drewN | apply Kd.R_drew)); exact HO_9.out⟩, ⟨by repeat (first | (with_reducible first | exact HB.out | apply below_alloc | apply pw_below_drewN | apply below_drew1) | exact HB.out)⟩⟩
                            · rw [if_neg c28] at H
                              have c28b0 : (a2 == 4) = false := beq_eq_false_iff_ne.mpr c28
                              have c28b1 : (a2 != 4) = true := bne_iff_ne.mpr c28
                              by_cases c30 : a2 = 5
                              · rw [if_pos c30] at H
                                have c30b0 : (a2 == 5) = true := beq_iff_eq.mpr c30
                                have c30b1 : (a2 != 5) = false := bne_eq_false_iff_eq.mpr c30
                                clear c30
                                have H' := Aside0.mk H
                                clear H
                                go_wp2
                                repeat (go_quiet (fail); try go_wp2)
                                go_meet
                                case rel => exact ⟨_, (!false), (by first | rfl | (simp; done) | (simp [*]; done)), H', ⟨by have := HK1.out; first | omega | exact Nat.le_refl _⟩, ⟨by (with_reducible repeat (first | apply Kd.R_alloc | apply Kd.R_drewN | apply Kd.R_drew)); exact HO_8.out⟩, ⟨by (with_reducible repeat (first | apply Kd.R_alloc | apply Kd.R_drewN | apply Kd.R_drew)); exact HO_9.out⟩, ⟨by repeat (first | (with_reducible first | exact HB.out | apply below_alloc | apply pw_below_drewN | apply below_drew1) | exact HB.out)⟩⟩
                              · rw [if_neg c30] at H
                                have c30b0 : (a2 == 5) = false := beq_eq_false_iff_ne.mpr c30
                                have c30b1 : (a2 != 5) = true := bne_iff_ne.mpr c30
                                have H' := Aside0.mk H
                                clear H
                                go_wp2
                                repeat (go_quiet (fail); try go_wp2)
                                go_meet
                                case rel => exact ⟨_, (false), (by first | rfl | (simp; done) | (simp [*]; done)), H', ⟨by have := HK1.out; first | omega | exact Nat.le_refl _⟩, ⟨by (with_reducible repeat (first | apply Kd.R_alloc | apply Kd.R_drewN | apply Kd.R_drew)); exact HO_8.out⟩, ⟨by (with_reducible repeat (first | apply Kd.R_alloc | apply Kd.R_drewN | apply Kd.R_drew)); exact HO_9.out⟩, ⟨by repeat (first | (with_reducible first | exact HB.out | apply below_alloc | apply pw_below_drewN | apply below_drew1) | exact HB.out)⟩⟩
                      · rw [if_neg c22] at H
                        have c22b0 : (a2 == 2) = false := beq_eq_false_iff_ne.mpr c22
                        have c22b1 : (a2 != 2) = true := bne_iff_ne.mpr c22
                        by_cases c31 : a2 = 3
                        · rw [if_pos c31] at H
                          have c31b0 : (a2 == 3) = true := beq_iff_eq.mpr c31
                          have c31b1 : (a2 != 3) = false := bne_eq_false_iff_eq.mpr c31
                          clear c31
                          by_cases c32 : t352 = true
                          · subst c32
                            have H1 : (goboref3_pick.j1 k1 l0 l1 a2 t346 x9_1 x10_1 x11_1 true) = some r := by rw [if_pos rfl] at H; exact H
                            clear H
                            have H := H1
                            clear H1
                            have H' := Aside0.mk H
                            clear H
                            go_wp2
                            repeat (go_quiet (fail); try go_wp2)
                            go_meet
                            case rel => exact ⟨_, (true), (by first | rfl | (simp; done) | (simp [*]; done)), H', ⟨by have := HK1.out; first | omega | exact Nat.le_refl _⟩, ⟨by (with_reducible repeat (first | apply Kd.R_alloc | apply Kd.R_drewN | apply Kd.R_drew)); exact HO_8.out⟩, ⟨by (with_reducible repeat (first | apply Kd.R_alloc | apply Kd.R_drewN | apply Kd.R_drew)); exact HO_9.out⟩, ⟨by repeat (first | (with_reducible first | exact HB.out | apply below_alloc | apply pw_below_drewN | apply below_drew1) | exact HB.out)⟩⟩
                          · replace c32 := Bool.eq_false_iff.mpr c32
                            subst c32
                            have H1 : (if a2 = 4 then (if a2 = 5 then (goboref3_pick.j1 k1 l0 l1 a2 t346 x9_1 x10_1 x11_1 (!false)) else (goboref3_pick.j1 k1 l0 l1 a2 t346 x9_1 x10_1 x11_1 false)) else (if a2 = 5 then (goboref3_pick.j1 k1 l0 l1 a2 t346 x9_1 x10_1 x11_1 (!false)) else (goboref3_pick.j1 k1 l0 l1 a2 t346 x9_1 x10_1 x11_1 false))) = some r := by rw [if_neg (show ¬ (false = true) by decide)] at H; exact H
                            clear H
                            have H := H1
                            clear H1
                            by_cases c33 : a2 = 4
                            · rw [if_pos c33] at H
                              have c33b0 : (a2 == 4) = true := beq_iff_eq.mpr c33
                              have c33b1 : (a2 != 4) = false := bne_eq_false_iff_eq.mpr c33
                              clear c33
                              by_cases c34 : a2 = 5
                              · rw [if_pos c34] at H
                                have c34b0 : (a2 == 5) = true := beq_iff_eq.mpr c34
                                have c34b1 : (a2 != 5) = false := bne_eq_false_iff_eq.mpr c34
                                clear c34
                                have H' := Aside0.mk H
                                clear H
                                go_wp2
                                repeat (go_quiet (fail); try go_wp2)
                                go_meet
                                case rel => exact ⟨_, (!false), (by first | rfl | (simp; done) | (simp [*]; done)), H', ⟨by have := HK1.out; first | omega | exact Nat.le_refl _⟩, ⟨by (with_reducible repeat (first | apply Kd.R_alloc | apply Kd.R_drewN | apply Kd.R_drew)); exact HO_8.out⟩, ⟨by (with_reducible repeat (first | apply Kd.R_alloc | apply Kd.R_drewN | apply Kd.R_drew)); exact HO_9.out⟩, ⟨by repeat (first | (with_reducible first | exact HB.out | apply below_alloc | apply pw_below_drewN | apply below_drew1) | exact HB.out)⟩⟩
                              · rw [if_neg c34] at H
                                have c34b0 : (a2 == 5) = false := beq_eq_false_iff_ne.mpr c34
                                have c34b1 : (a2 != 5) = true := bne_iff_ne.mpr c34
                                have H' := Aside0.mk H
                                clear H
                                go_wp2
                                repeat (go_quiet (fail); try go_wp2)
                                go_meet
                                case rel => exact ⟨_, (false), (by first | rfl | (simp; done) | (simp [*]; done)), H', ⟨by have := HK1.out; first | omega | exact Nat.le_refl _⟩, ⟨by (with_reducible repeat (first | apply Kd.R_alloc | apply Kd.R_drewN | apply Kd.R_drew)); exact HO_8.out⟩, ⟨by (with_reducible repeat (first | apply Kd.R_alloc | apply Kd.R_drewN | apply Kd.R_drew)); exact HO_9.out⟩, ⟨by repeat (first | (with_reducible first | exact HB.out | apply below_alloc | apply pw_below_drewN | apply below_drew1) | exact HB.out)⟩⟩
                            · rw [if_neg c33] at H
                              have c33b0 : (a2 == 4) = false := beq_eq_false_iff_ne.mpr c33
                              have c33b1 : (a2 != 4) = true := bne_iff_ne.mpr c33
                              by_cases c35 : a2 = 5
                              · rw [if_pos c35] at H
                                have c35b0 : (a2 == 5) = true := beq_iff_eq.mpr c35
                                have c35b1 : (a2 != 5) = false := bne_eq_false_iff_eq.mpr c35
                                clear c35
                                have H' := Aside0.mk H
                                clear H
                                go_wp2
                                repeat (go_quiet (fail); try go_wp2)
                                go_meet
                                case rel => exact ⟨_, (!false), (by first | rfl | (simp; done) | (simp [*]; done)), H', ⟨by have := HK1.out; first | omega | exact Nat.le_refl _⟩, ⟨by (with_reducible repeat (first | apply Kd.R_alloc | apply Kd.R_drewN | apply Kd.R_drew)); exact HO_8.out⟩, ⟨by (with_reducible repeat (first | apply Kd.R_alloc | apply Kd.R_drewN | apply Kd.R_drew)); exact HO_9.out⟩, ⟨by repeat (first | (with_reducible first | exact HB.out | apply below_alloc | apply pw_below_drewN | apply below_drew1) | exact HB.out)⟩⟩
                              · rw [if_neg c35] at H
                                have c35b0 : (a2 == 5) = false := beq_eq_false_iff_ne.mpr c35
                                have c35b1 : (a2 != 5) = true := bne_iff_ne.mpr c35
                                have H' := Aside0.mk H
                                clear H
                                go_wp2
                                repeat (go_quiet (fail); try go_wp2)
                                go_meet
                                case rel => exact ⟨_, (false), (by first | rfl | (simp; done) | (simp [*]; done)), H', ⟨by have := HK1.out; first | omega | exact Nat.le_refl _⟩, ⟨by (with_reducible repeat (first | apply Kd.R_alloc | apply Kd.R_drewN | apply Kd.R_drew)); exact HO_8.out⟩, ⟨by (with_reducible repeat (first | apply Kd.R_alloc | apply Kd.R_drewN | apply Kd.R_drew)); exact HO_9.out⟩, ⟨by repeat (first | (with_reducible first | exact HB.out | apply below_alloc | apply pw_below_drewN | apply below_drew1) | exact HB.out)⟩⟩
                        · rw [if_neg c31] at H
                          have c31b0 : (a2 == 3) = false := beq_eq_false_iff_ne.mpr c31
                          have c31b1 : (a2 != 3) = true := bne_iff_ne.mpr c31
                          by_cases c36 : a2 = 4
                          · rw [if_pos c36] at H
                            have c36b0 : (a2 == 4) = true := beq_iff_eq.mpr c36
                            have c36b1 : (a2 != 4) = false := bne_eq_false_iff_eq.mpr c36
                            clear c36
                            by_cases c37 : a2 = 5
                            · rw [if_pos c37] at H
                              have c37b0 : (a2 == 5) = true := beq_iff_eq.mpr c37
                              have c37b1 : (a2 != 5) = false := bne_eq_false_iff_eq.mpr c37
                              clear c37
                              have H' := Aside0.mk H
                              clear H
                              go_wp2
                              repeat (go_quiet (fail); try go_wp2)
                              go_meet
                              case rel => exact ⟨_, (!false), (by first | rfl | (simp; done) | (simp [*]; done)), H', ⟨by have := HK1.out; first | omega | exact Nat.le_refl _⟩, ⟨by (with_reducible repeat (first | apply Kd.R_alloc | apply Kd.R_drewN | apply Kd.R_drew)); exact HO_8.out⟩, ⟨by (with_reducible repeat (first | apply Kd.R_alloc | apply Kd.R_drewN | apply Kd.R_drew)); exact HO_9.out⟩, ⟨by repeat (first | (with_reducible first | exact HB.out | apply below_alloc | apply pw_below_drewN | apply below_drew1) | exact HB.out)⟩⟩
                            · rw [if_neg c37] at H
                              have c37b0 : (a2 == 5) = false := beq_eq_false_iff_ne.mpr c37
                              have c37b1 : (a2 != 5) = true := bne_iff_ne.mpr c37
                              have H' := Aside0.mk H
                              clear H
                              go_wp2
                              repeat (go_quiet (fail); try go_wp2)
                              go_meet
                              case rel => exact ⟨_, (false), (by first | rfl | (simp; done) | (simp [*]; done)), H', ⟨by have := HK1.out; first | omega | exact Nat.le_refl _⟩, ⟨by (with_reducible repeat (first | apply Kd.R_alloc | apply Kd.R_drewN | apply Kd.R_drew)); exact HO_8.out⟩, ⟨by (with_reducible repeat (first | apply Kd.R_alloc | apply Kd.R_drewN | apply Kd.R_drew)); exact HO_9.out⟩, ⟨by repeat (first | (with_reducible first | exact HB.out | apply below_alloc | apply pw_below_drewN | apply below_drew1) | exact HB.out)⟩⟩
                          · rw [if_neg c36] at H
                            have c36b0 : (a2 == 4) = false := beq_eq_false_iff_ne.mpr c36
                            have c36b1 : (a2 != 4) = true := bne_iff_ne.mpr c36
                            by_cases c38 : a2 = 5
                            · rw [if_pos c38] at H
                              have c38b0 : (a2 == 5) = true := beq_iff_eq.mpr c38
                              have c38b1 : (a2 != 5) = false := bne_eq_false_iff_eq.mpr c38
                              clear c38
                              have H' := Aside0.mk H
                              clear H
                              go_wp2
                              repeat (go_quiet (fail); try go_wp2)
                              go_meet
                              case rel => exact ⟨_, (!false), (by first | rfl | (simp; done) | (simp [*]; done)), H', ⟨by have := HK1.out; first | omega | exact Nat.le_refl _⟩, ⟨by (with_reducible repeat (first | apply Kd.R_alloc | apply Kd.R_drewN | apply Kd.R_drew)); exact HO_8.out⟩, ⟨by (with_reducible repeat (first | apply Kd.R_alloc | apply Kd.R_drewN | apply Kd.R_drew)); exact HO_9.out⟩, ⟨by repeat (first | (with_reducible first | exact HB.out | apply below_alloc | apply pw_below_drewN | apply below_drew1) | exact HB.out)⟩⟩
                            · rw [if_neg c38] at H
                              have c38b0 : (a2 == 5) = false := beq_eq_false_iff_ne.mpr c38
                              have c38b1 : (a2 != 5) = true := bne_iff_ne.mpr c38
                              have H' := Aside0.mk H
                              clear H
                              go_wp2
                              repeat (go_quiet (fail); try go_wp2)
                              go_meet
                              case rel => exact ⟨_, (false), (by first | rfl | (simp; done) | (simp [*]; done)), H', ⟨by have := HK1.out; first | omega | exact Nat.le_refl _⟩, ⟨by (with_reducible repeat (first | apply Kd.R_alloc | apply Kd.R_drewN | apply Kd.R_drew)); exact HO_8.out⟩, ⟨by (with_reducible repeat (first | apply Kd.R_alloc | apply Kd.R_drewN | apply Kd.R_drew)); exact HO_9.out⟩, ⟨by repeat (first | (with_reducible first | exact HB.out | apply below_alloc | apply pw_below_drewN | apply below_drew1) | exact HB.out)⟩⟩
                  · rw [if_neg c20] at H
                    have c20b0 : (a2 == 1) = false := beq_eq_false_iff_ne.mpr c20
                    have c20b1 : (a2 != 1) = true := bne_iff_ne.mpr c20
                    (first | rw [c20b0] | (simp only [i64_w, i32_w]; rw [c20b0]) | skip)
                    by_cases c39 : a2 = 2
                    · rw [if_pos c39] at H
                      have c39b0 : (a2 == 2) = true := beq_iff_eq.mpr c39
                      have c39b1 : (a2 != 2) = false := bne_eq_false_iff_eq.mpr c39
                      clear c39
                      by_cases c40 : t352 = true
                      · subst c40
                        have H1 : (goboref3_pick.j1 k1 l0 l1 a2 t346 x9_1 x10_1 x11_1 true) = some r := by rw [if_pos rfl] at H; exact H
                        clear H
                        have H := H1
                        clear H1
                        have H' := Aside0.mk H
                        clear H
                        go_wp2
                        repeat (go_quiet (fail); try go_wp2)
                        go_meet
                        case rel => exact ⟨_, (true), (by first | rfl | (simp; done) | (simp [*]; done)), H', ⟨by have := HK1.out; first | omega | exact Nat.le_refl _⟩, ⟨by (with_reducible repeat (first | apply Kd.R_alloc | apply Kd.R_drewN | apply Kd.R_drew)); exact HO_8.out⟩, ⟨by (with_reducible repeat (first | apply Kd.R_alloc | apply Kd.R_drewN | apply Kd.R_drew)); exact HO_9.out⟩, ⟨by repeat (first | (with_reducible first | exact HB.out | apply below_alloc | apply pw_below_drewN | apply below_drew1) | exact HB.out)⟩⟩
                      · replace c40 := Bool.eq_false_iff.mpr c40
                        subst c40
                        have H1 : (if a2 = 3 then (if t350 = true then (goboref3_pick.j1 k1 l0 l1 a2 t346 x9_1 x10_1 x11_1 true) else (if a2 = 4 then (if a2 = 5 then (goboref3_pick.j1 k1 l0 l1 a2 t346 x9_1 x10_1 x11_1 (!t350)) else (goboref3_pick.j1 k1 l0 l1 a2 t346 x9_1 x10_1 x11_1 false)) else (if a2 = 5 then (goboref3_pick.j1 k1 l0 l1 a2 t346 x9_1 x10_1 x11_1 (!t350)) else (goboref3_pick.j1 k1 l0 l1 a2 t346 x9_1 x10_1 x11_1 false)))) else (if a2 = 4 then (if t350 = true then (if a2 = 5 then (goboref3_pick.j1 k1 l0 l1 a2 t346 x9_1 x10_1 x11_1 (!t350)) else (goboref3_pick.j1 k1 l0 l1 a2 t346 x9_1 x10_1 x11_1 false)) else (if a2 = 5 then (goboref3_pick.j1 k1 l0 l1 a2 t346 x9_1 x10_1 x11_1 (!t350)) else (goboref3_pick.j1 k1 l0 l1 a2 t346 x9_1 x10_1 x11_1 false))) else (if a2 = 5 then (goboref3_pick.j1 k1 l0 l1 a2 t346 x9_1 x10_1 x11_1 (!t350)) else (goboref3_pick.j1 k1 l0 l1 a2 t346 x9_1 x10_1 x11_1 false)))) = some r := by rw [if_neg (show ¬ (false = true) by decide)] at H; exact H
                        clear H
                        have H := H1
                        clear H1
                        by_cases c41 : a2 = 3
                        · rw [if_pos c41] at H
                          have c41b0 : (a2 == 3) = true := beq_iff_eq.mpr c41
                          have c41b1 : (a2 != 3) = false := bne_eq_false_iff_eq.mpr c41
                          clear c41
                          by_cases c42 : t350 = true
                          · subst c42
                            have H1 : (goboref3_pick.j1 k1 l0 l1 a2 t346 x9_1 x10_1 x11_1 true) = some r := by rw [if_pos rfl] at H; exact H
                            clear H
                            have H := H1
                            clear H1
                            have H' := Aside0.mk H
                            clear H
                            go_wp2
                            repeat (go_quiet (fail); try go_wp2)
                            go_meet
                            case rel => exact ⟨_, (true), (by first | rfl | (simp; done) | (simp [*]; done)), H', ⟨by have := HK1.out; first | omega | exact Nat.le_refl _⟩, ⟨by (with_reducible repeat (first | apply Kd.R_alloc | apply Kd.R_drewN | apply Kd.R_drew)); exact HO_8.out⟩, ⟨by (with_reducible repeat (first | apply Kd.R_alloc | apply Kd.R_drewN | apply Kd.R_drew)); exact HO_9.out⟩, ⟨by repeat (first | (with_reducible first | exact HB.out | apply below_alloc | apply pw_below_drewN | apply below_drew1) | exact HB.out)⟩⟩
                          · replace c42 := Bool.eq_false_iff.mpr c42
                            subst c42
                            have H1 : (if a2 = 4 then (if a2 = 5 then (goboref3_pick.j1 k1 l0 l1 a2 t346 x9_1 x10_1 x11_1 (!false)) else (goboref3_pick.j1 k1 l0 l1 a2 t346 x9_1 x10_1 x11_1 false)) else (if a2 = 5 then (goboref3_pick.j1 k1 l0 l1 a2 t346 x9_1 x10_1 x11_1 (!false)) else (goboref3_pick.j1 k1 l0 l1 a2 t346 x9_1 x10_1 x11_1 false))) = some r := by rw [if_neg (show ¬ (false = true) by decide)] at H; exact H
                            clear H
                            have H := H1
                            clear H1
                            by_cases c43 : a2 = 4
                            · rw [if_pos c43] at H
                              have c43b0 : (a2 == 4) = true := beq_iff_eq.mpr c43
                              have c43b1 : (a2 != 4) = false := bne_eq_false_iff_eq.mpr c43
                              clear c43
                              by_cases c44 : a2 = 5
                              · rw [if_pos c44] at H
                                have c44b0 : (a2 == 5) = true := beq_iff_eq.mpr c44
                                have c44b1 : (a2 != 5) = false := bne_eq_false_iff_eq.mpr c44
                                clear c44
                                have H' := Aside0.mk H
                                clear H
                                go_wp2
                                repeat (go_quiet (fail); try go_wp2)
                                go_meet
                                case rel => exact ⟨_, (!false), (by first | rfl | (simp; done) | (simp [*]; done)), H', ⟨by have := HK1.out; first | omega | exact Nat.le_refl _⟩, ⟨by (with_reducible repeat (first | apply Kd.R_alloc | apply Kd.R_drewN | apply Kd.R_drew)); exact HO_8.out⟩, ⟨by (with_reducible repeat (first | apply Kd.R_alloc | apply Kd.R_drewN | apply Kd.R_drew)); exact HO_9.out⟩, ⟨by repeat (first | (with_reducible first | exact HB.out | apply below_alloc | apply pw_below_drewN | apply below_drew1) | exact HB.out)⟩⟩
                              · rw [if_neg c44] at H
                                have c44b0 : (a2 == 5) = false := beq_eq_false_iff_ne.mpr c44
                                have c44b1 : (a2 != 5) = true := bne_iff_ne.mpr c44
                                have H' := Aside0.mk H
                                clear H
                                go_wp2
                                repeat (go_quiet (fail); try go_wp2)
                                go_meet
                                case rel => exact ⟨_, (false), (by first | rfl | (simp; done) | (simp [*]; done)), H', ⟨by have := HK1.out; first | omega | exact Nat.le_refl _⟩, ⟨by (with_reducible repeat (first | apply Kd.R_alloc | apply Kd.R_drewN | apply Kd.R_drew)); exact HO_8.out⟩, ⟨by (with_reducible repeat (first | apply Kd.R_alloc | apply Kd.R_drewN | apply Kd.R_drew)); exact HO_9.out⟩, ⟨by repeat (first | (with_reducible first | exact HB.out | apply below_alloc | apply pw_below_drewN | apply below_drew1) | exact HB.out)⟩⟩
                            · rw [if_neg c43] at H
                              have c43b0 : (a2 == 4) = false := beq_eq_false_iff_ne.mpr c43
                              have c43b1 : (a2 != 4) = true := bne_iff_ne.mpr c43
                              by_cases c45 : a2 = 5
                              · rw [if_pos c45] at H
                                have c45b0 : (a2 == 5) = true := beq_iff_eq.mpr c45
                                have c45b1 : (a2 != 5) = false := bne_eq_false_iff_eq.mpr c45
                                clear c45
                                have H' := Aside0.mk H
                                clear H
                                go_wp2
                                repeat (go_quiet (fail); try go_wp2)
                                go_meet
                                case rel => exact ⟨_, (!false), (by first | rfl | (simp; done) | (simp [*]; done)), H', ⟨by have := HK1.out; first | omega | exact Nat.le_refl _⟩, ⟨by (with_reducible repeat (first | apply Kd.R_alloc | apply Kd.R_drewN | apply Kd.R_drew)); exact HO_8.out⟩, ⟨by (with_reducible repeat (first | apply Kd.R_alloc | apply Kd.R_drewN | apply Kd.R_drew)); exact HO_9.out⟩, ⟨by repeat (first | (with_reducible first | exact HB.out | apply below_alloc | apply pw_below_drewN | apply below_drew1) | exact HB.out)⟩⟩
                              · rw [if_neg c45] at H
                                have c45b0 : (a2 == 5) = false := beq_eq_false_iff_ne.mpr c45
                                have c45b1 : (a2 != 5) = true := bne_iff_ne.mpr c45
                                have H' := Aside0.mk H
                                clear H
                                go_wp2
                                repeat (go_quiet (fail); try go_wp2)
                                go_meet
                                case rel => exact ⟨_, (false), (by first | rfl | (simp; done) | (simp [*]; done)), H', ⟨by have := HK1.out; first | omega | exact Nat.le_refl _⟩, ⟨by (with_reducible repeat (first | apply Kd.R_alloc | apply Kd.R_drewN | apply Kd.R_drew)); exact HO_8.out⟩, ⟨by (with_reducible repeat (first | apply Kd.R_alloc | apply Kd.R_drewN | apply Kd.R_drew)); exact HO_9.out⟩, ⟨by repeat (first | (with_reducible first | exact HB.out | apply below_alloc | apply pw_below_drewN | apply below_drew1) | exact HB.out)⟩⟩
                        · rw [if_neg c41] at H
                          have c41b0 : (a2 == 3) = false := beq_eq_false_iff_ne.mpr c41
                          have c41b1 : (a2 != 3) = true := bne_iff_ne.mpr c41
                          by_cases c46 : a2 = 4
                          · rw [if_pos c46] at H
                            have c46b0 : (a2 == 4) = true := beq_iff_eq.mpr c46
                            have c46b1 : (a2 != 4) = false := bne_eq_false_iff_eq.mpr c46
                            clear c46
                            by_cases c47 : t350 = true
                            · subst c47
                              have H1 : (if a2 = 5 then (goboref3_pick.j1 k1 l0 l1 a2 t346 x9_1 x10_1 x11_1 (!true)) else (goboref3_pick.j1 k1 l0 l1 a2 t346 x9_1 x10_1 x11_1 false)) = some r := by rw [if_pos rfl] at H; exact H
                              clear H
                              have H := H1
                              clear H1
                              by_cases c48 : a2 = 5
                              · rw [if_pos c48] at H
                                have c48b0 : (a2 == 5) = true := beq_iff_eq.mpr c48
                                have c48b1 : (a2 != 5) = false := bne_eq_false_iff_eq.mpr c48
                                clear c48
                                have H' := Aside0.mk H
                                clear H
                                go_wp2
                                repeat (go_quiet (fail); try go_wp2)
                                go_meet
                                case rel => exact ⟨_, (!true), (by first | rfl | (simp; done) | (simp [*]; done)), H', ⟨by have := HK1.out; first | omega | exact Nat.le_refl _⟩, ⟨by (with_reducible repeat (first | apply Kd.R_alloc | apply Kd.R_drewN | apply Kd.R_drew)); exact HO_8.out⟩, ⟨by (with_reducible repeat (first | apply Kd.R_alloc | apply Kd.R_drewN | apply Kd.R_drew)); exact HO_9.out⟩, ⟨by repeat (first | (with_reducible first | exact HB.out | apply below_alloc | apply pw_below_drewN | apply below_drew1) | exact HB.out)⟩⟩
                              · rw [if_neg c48] at H
                                have c48b0 : (a2 == 5) = false := beq_eq_false_iff_ne.mpr c48
                                have c48b1 : (a2 != 5) = true := bne_iff_ne.mpr c48
                                have H' := Aside0.mk H
                                clear H
                                go_wp2
                                repeat (go_quiet (fail); try go_wp2)
                                go_meet
                                case rel => exact ⟨_, (false), (by first | rfl | (simp; done) | (simp [*]; done)), H', ⟨by have := HK1.out; first | omega | exact Nat.le_refl _⟩, ⟨by (with_reducible repeat (first | apply Kd.R_alloc | apply Kd.R_drewN | apply Kd.R_drew)); exact HO_8.out⟩, ⟨by (with_reducible repeat (first | apply Kd.R_alloc | apply Kd.R_drewN | apply Kd.R_drew)); exact HO_9.out⟩, ⟨by repeat (first | (with_reducible first | exact HB.out | apply below_alloc | apply pw_below_drewN | apply below_drew1) | exact HB.out)⟩⟩
                            · replace c47 := Bool.eq_false_iff.mpr c47
                              subst c47
                              have H1 : (if a2 = 5 then (goboref3_pick.j1 k1 l0 l1 a2 t346 x9_1 x10_1 x11_1 (!false)) else (goboref3_pick.j1 k1 l0 l1 a2 t346 x9_1 x10_1 x11_1 false)) = some r := by rw [if_neg (show ¬ (false = true) by decide)] at H; exact H
                              clear H
                              have H := H1
                              clear H1
                              by_cases c49 : a2 = 5
                              · rw [if_pos c49] at H
                                have c49b0 : (a2 == 5) = true := beq_iff_eq.mpr c49
                                have c49b1 : (a2 != 5) = false := bne_eq_false_iff_eq.mpr c49
                                clear c49
                                have H' := Aside0.mk H
                                clear H
                                go_wp2
                                repeat (go_quiet (fail); try go_wp2)
                                go_meet
                                case rel => exact ⟨_, (!false), (by first | rfl | (simp; done) | (simp [*]; done)), H', ⟨by have := HK1.out; first | omega | exact Nat.le_refl _⟩, ⟨by (with_reducible repeat (first | apply Kd.R_alloc | apply Kd.R_drewN | apply Kd.R_drew)); exact HO_8.out⟩, ⟨by (with_reducible repeat (first | apply Kd.R_alloc | apply Kd.R_drewN | apply Kd.R_drew)); exact HO_9.out⟩, ⟨by repeat (first | (with_reducible first | exact HB.out | apply below_alloc | apply pw_below_drewN | apply below_drew1) | exact HB.out)⟩⟩
                              · rw [if_neg c49] at H
                                have c49b0 : (a2 == 5) = false := beq_eq_false_iff_ne.mpr c49
                                have c49b1 : (a2 != 5) = true := bne_iff_ne.mpr c49
                                have H' := Aside0.mk H
                                clear H
                                go_wp2
                                repeat (go_quiet (fail); try go_wp2)
                                go_meet
                                case rel => exact ⟨_, (false), (by first | rfl | (simp; done) | (simp [*]; done)), H', ⟨by have := HK1.out; first | omega | exact Nat.le_refl _⟩, ⟨by (with_reducible repeat (first | apply Kd.R_alloc | apply Kd.R_drewN | apply Kd.R_drew)); exact HO_8.out⟩, ⟨by (with_reducible repeat (first | apply Kd.R_alloc | apply Kd.R_drewN | apply Kd.R_drew)); exact HO_9.out⟩, ⟨by repeat (first | (with_reducible first | exact HB.out | apply below_alloc | apply pw_below_drewN | apply below_drew1) | exact HB.out)⟩⟩
                          · rw [if_neg c46] at H
                            have c46b0 : (a2 == 4) = false := beq_eq_false_iff_ne.mpr c46
                            have c46b1 : (a2 != 4) = true := bne_iff_ne.mpr c46
                            by_cases c50 : a2 = 5
                            · rw [if_pos c50] at H
                              have c50b0 : (a2 == 5) = true := beq_iff_eq.mpr c50
                              have c50b1 : (a2 != 5) = false := bne_eq_false_iff_eq.mpr c50
                              clear c50
                              have H' := Aside0.mk H
                              clear H
                              go_wp2
                              repeat (go_quiet (fail); try go_wp2)
                              go_meet
                              case rel => exact ⟨_, (!t350), (by first | rfl | (simp; done) | (simp [*]; done)), H', ⟨by have := HK1.out; first | omega | exact Nat.le_refl _⟩, ⟨by (with_reducible repeat (first | apply Kd.R_alloc | apply Kd.R_drewN | apply Kd.R_drew)); exact HO_8.out⟩, ⟨by (with_reducible repeat (first | apply Kd.R_alloc | apply Kd.R_drewN | apply Kd.R_drew)); exact HO_9.out⟩, ⟨by repeat (first | (with_reducible first | exact HB.out | apply below_alloc | apply pw_below_drewN | apply below_drew1) | exact HB.out)⟩⟩
                            · rw [if_neg c50] at H
                              have c50b0 : (a2 == 5) = false := beq_eq_false_iff_ne.mpr c50
                              have c50b1 : (a2 != 5) = true := bne_iff_ne.mpr c50
                              have H' := Aside0.mk H
                              clear H
                              go_wp2
                              repeat (go_quiet (fail); try go_wp2)
                              go_meet
                              case rel => exact ⟨_, (false), (by first | rfl | (simp; done) | (simp [*]; done)), H', ⟨by have := HK1.out; first | omega | exact Nat.le_refl _⟩, ⟨by (with_reducible repeat (first | apply Kd.R_alloc | apply Kd.R_drewN | apply Kd.R_drew)); exact HO_8.out⟩, ⟨by (with_reducible repeat (first | apply Kd.R_alloc | apply Kd.R_drewN | apply Kd.R_drew)); exact HO_9.out⟩, ⟨by repeat (first | (with_reducible first | exact HB.out | apply below_alloc | apply pw_below_drewN | apply below_drew1) | exact HB.out)⟩⟩
                    · rw [if_neg c39] at H
                      have c39b0 : (a2 == 2) = false := beq_eq_false_iff_ne.mpr c39
                      have c39b1 : (a2 != 2) = true := bne_iff_ne.mpr c39
                      by_cases c51 : a2 = 3
                      · rw [if_pos c51] at H
                        have c51b0 : (a2 == 3) = true := beq_iff_eq.mpr c51
                        have c51b1 : (a2 != 3) = false := bne_eq_false_iff_eq.mpr c51
                        clear c51
                        by_cases c52 : t350 = true
                        · subst c52
                          have H1 : (goboref3_pick.j1 k1 l0 l1 a2 t346 x9_1 x10_1 x11_1 true) = some r := by rw [if_pos rfl] at H; exact H
                          clear H
                          have H := H1
                          clear H1
                          have H' := Aside0.mk H
                          clear H
                          go_wp2
                          repeat (go_quiet (fail); try go_wp2)
                          go_meet
                          case rel => exact ⟨_, (true), (by first | rfl | (simp; done) | (simp [*]; done)), H', ⟨by have := HK1.out; first | omega | exact Nat.le_refl _⟩, ⟨by (with_reducible repeat (first | apply Kd.R_alloc | apply Kd.R_drewN | apply Kd.R_drew)); exact HO_8.out⟩, ⟨by (with_reducible repeat (first | apply Kd.R_alloc | apply Kd.R_drewN | apply Kd.R_drew)); exact HO_9.out⟩, ⟨by repeat (first | (with_reducible first | exact HB.out | apply below_alloc | apply pw_below_drewN | apply below_drew1) | exact HB.out)⟩⟩
                        · replace c52 := Bool.eq_false_iff.mpr c52
                          subst c52
                          have H1 : (if t352 = true then (goboref3_pick.j1 k1 l0 l1 a2 t346 x9_1 x10_1 x11_1 true) else (if a2 = 4 then (if a2 = 5 then (goboref3_pick.j1 k1 l0 l1 a2 t346 x9_1 x10_1 x11_1 (!false)) else (goboref3_pick.j1 k1 l0 l1 a2 t346 x9_1 x10_1 x11_1 false)) else (if a2 = 5 then (goboref3_pick.j1 k1 l0 l1 a2 t346 x9_1 x10_1 x11_1 (!false)) else (goboref3_pick.j1 k1 l0 l1 a2 t346 x9_1 x10_1 x11_1 false)))) = some r := by rw [if_neg (show ¬ (false = true) by decide)] at H; exact H
                          clear H
                          have H := H1
                          clear H1
                          by_cases c53 : t352 = true
                          · subst c53
                            have H1 : (goboref3_pick.j1 k1 l0 l1 a2 t346 x9_1 x10_1 x11_1 true) = some r := by rw [if_pos rfl] at H; exact H
                            clear H
                            have H := H1
                            clear H1
                            have H' := Aside0.mk H
                            clear H
                            go_wp2
                            repeat (go_quiet (fail); try go_wp2)
                            go_meet
                            case rel => exact ⟨_, (true), (by first | rfl | (simp; done) | (simp [*]; done)), H', ⟨by have := HK1.out; first | omega | exact Nat.le_refl _⟩, ⟨by (with_reducible repeat (first | apply Kd.R_alloc | apply Kd.R_drewN | apply Kd.R_drew)); exact HO_8.out⟩, ⟨by (with_reducible repeat (first | apply Kd.R_alloc | apply Kd.R_drewN | apply Kd.R_drew)); exact HO_9.out⟩, ⟨by repeat (first | (with_reducible first | exact HB.out | apply below_alloc | apply pw_below_drewN | apply below_drew1) | exact HB.out)⟩⟩
                          · replace c53 := Bool.eq_false_iff.mpr c53
                            subst c53
                            have H1 : (if a2 = 4 then (if a2 = 5 then (goboref3_pick.j1 k1 l0 l1 a2 t346 x9_1 x10_1 x11_1 (!false)) else (goboref3_pick.j1 k1 l0 l1 a2 t346 x9_1 x10_1 x11_1 false)) else (if a2 = 5 then (goboref3_pick.j1 k1 l0 l1 a2 t346 x9_1 x10_1 x11_1 (!false)) else (goboref3_pick.j1 k1 l0 l1 a2 t346 x9_1 x10_1 x11_1 false))) = some r := by rw [if_neg (show ¬ (false = true) by decide)] at H; exact H
                            clear H
                            have H := H1
                            clear H1
                            by_cases c54 : a2 = 4
                            · rw [if_pos c54] at H
                              have c54b0 : (a2 == 4) = true := beq_iff_eq.mpr c54
                              have c54b1 : (a2 != 4) = false := bne_eq_false_iff_eq.mpr c54
                              clear c54
                              by_cases c55 : a2 = 5
                              · rw [if_pos c55] at H
                                have c55b0 : (a2 == 5) = true := beq_iff_eq.mpr c55
                                have c55b1 : (a2 != 5) = false := bne_eq_false_iff_eq.mpr c55
                                clear c55
                                have H' := Aside0.mk H
                                clear H
                                go_wp2
                                repeat (go_quiet (fail); try go_wp2)
                                go_meet
                                case rel => exact ⟨_, (!false), (by first | rfl | (simp; done) | (simp [*]; done)), H', ⟨by have := HK1.out; first | omega | exact Nat.le_refl _⟩, ⟨by (with_reducible repeat (first | apply Kd.R_alloc | apply Kd.R_drewN | apply Kd.R_drew)); exact HO_8.out⟩, ⟨by (with_reducible repeat (first | apply Kd.R_alloc | apply Kd.R_drewN | apply Kd.R_drew)); exact HO_9.out⟩, ⟨by repeat (first | (with_reducible first | exact HB.out | apply below_alloc | apply pw_below_drewN | apply below_drew1) | exact HB.out)⟩⟩
                              · rw [if_neg c55] at H
                                have c55b0 : (a2 == 5) = false := beq_eq_false_iff_ne.mpr c55
                                have c55b1 : (a2 != 5) = true := bne_iff_ne.mpr c55
                                have H' := Aside0.mk H
                                clear H
                                go_wp2
                                repeat (go_quiet (fail); try go_wp2)
                                go_meet
                                case rel => exact ⟨_, (false), (by first | rfl | (simp; done) | (simp [*]; done)), H', ⟨by have := HK1.out; first | omega | exact Nat.le_refl _⟩, ⟨by (with_reducible repeat (first | apply Kd.R_alloc | apply Kd.R_drewN | apply Kd.R_drew)); exact HO_8.out⟩, ⟨by (with_reducible repeat (first | apply Kd.R_alloc | apply Kd.R_drewN | apply Kd.R_drew)); exact HO_9.out⟩, ⟨by repeat (first | (with_reducible first | exact HB.out | apply below_alloc | apply pw_below_drewN | apply below_drew1) | exact HB.out)⟩⟩
                            · rw [if_neg c54] at H
                              have c54b0 : (a2 == 4) = false := beq_eq_false_iff_ne.mpr c54
                              have c54b1 : (a2 != 4) = true := bne_iff_ne.mpr c54
                              by_cases c56 : a2 = 5
                              · rw [if_pos c56] at H
                                have c56b0 : (a2 == 5) = true := beq_iff_eq.mpr c56
                                have c56b1 : (a2 != 5) = false := bne_eq_false_iff_eq.mpr c56
                                clear c56
                                have H' := Aside0.mk H
                                clear H
                                go_wp2
                                repeat (go_quiet (fail); try go_wp2)
                                go_meet
                                case rel => exact ⟨_, (!false), (by first | rfl | (simp; done) | (simp [*]; done)), H', ⟨by have := HK1.out; first | omega | exact Nat.le_refl _⟩, ⟨by (with_reducible repeat (first | apply Kd.R_alloc | apply Kd.R_drewN | apply Kd.R_drew)); exact HO_8.out⟩, ⟨by (with_reducible repeat (first | apply Kd.R_alloc | apply Kd.R_drewN | apply Kd.R_drew)); exact HO_9.out⟩, ⟨by repeat (first | (with_reducible first | exact HB.out | apply below_alloc | apply pw_below_drewN | apply below_drew1) | exact HB.out)⟩⟩
                              · rw [if_neg c56] at H
                                have c56b0 : (a2 == 5) = false := beq_eq_false_iff_ne.mpr c56
                                have c56b1 : (a2 != 5) = true := bne_iff_ne.mpr c56
                                have H' := Aside0.mk H
                                clear H
                                go_wp2
                                repeat (go_quiet (fail); try go_wp2)
                                go_meet
                                case rel => exact ⟨_, (false), (by first | rfl | (simp; done) | (simp [*]; done)), H', ⟨by have := HK1.out; first | omega | exact Nat.le_refl _⟩, ⟨by (with_reducible repeat (first | apply Kd.R_alloc | apply Kd.R_drewN | apply Kd.R_drew)); exact HO_8.out⟩, ⟨by (with_reducible repeat (first | apply Kd.R_alloc | apply Kd.R_drewN | apply Kd.R_drew)); exact HO_9.out⟩, ⟨by repeat (first | (with_reducible first | exact HB.out | apply below_alloc | apply pw_below_drewN | apply below_drew1) | exact HB.out)⟩⟩
                      · rw [if_neg c51] at H
                        have c51b0 : (a2 == 3) = false := beq_eq_false_iff_ne.mpr c51
                        have c51b1 : (a2 != 3) = true := bne_iff_ne.mpr c51
                        by_cases c57 : a2 = 4
                        · rw [if_pos c57] at H
                          have c57b0 : (a2 == 4) = true := beq_iff_eq.mpr c57
                          have c57b1 : (a2 != 4) = false := bne_eq_false_iff_eq.mpr c57
                          clear c57
                          by_cases c58 : t350 = true
                          · subst c58
                            have H1 : (if t352 = true then (goboref3_pick.j1 k1 l0 l1 a2 t346 x9_1 x10_1 x11_1 true) else (if a2 = 5 then (goboref3_pick.j1 k1 l0 l1 a2 t346 x9_1 x10_1 x11_1 (!true)) else (goboref3_pick.j1 k1 l0 l1 a2 t346 x9_1 x10_1 x11_1 false))) = some r := by rw [if_pos rfl] at H; exact H
                            clear H
                            have H := H1
                            clear H1
                            by_cases c59 : t352 = true
                            · subst c59
                              have H1 : (goboref3_pick.j1 k1 l0 l1 a2 t346 x9_1 x10_1 x11_1 true) = some r := by rw [if_pos rfl] at H; exact H
                              clear H
                              have H := H1
                              clear H1
                              have H' := Aside0.mk H
                              clear H
                              go_wp2
                              repeat (go_quiet (fail); try go_wp2)
                              go_meet
                              case rel => exact ⟨_, (true), (by first | rfl | (simp; done) | (simp [*]; done)), H', ⟨by have := HK1.out; first | omega | exact Nat.le_refl _⟩, ⟨by (with_reducible repeat (first | apply Kd.R_alloc | apply Kd.R_drewN | apply Kd.R_drew)); exact HO_8.out⟩, ⟨by (with_reducible repeat (first | apply Kd.R_alloc | apply Kd.R_drewN | apply Kd.R_drew)); exact HO_9.out⟩, ⟨by repeat (first | (with_reducible first | exact HB.out | apply below_alloc | apply pw_below_drewN | apply below_drew1) | exact HB.out)⟩⟩
                            · replace c59 := Bool.eq_false_iff.mpr c59
                              subst c59
                              have H1 : (if a2 = 5 then (goboref3_pick.j1 k1 l0 l1 a2 t346 x9_1 x10_1 x11_1 (!true)) else (goboref3_pick.j1 k1 l0 l1 a2 t346 x9_1 x10_1 x11_1 false)) = some r := by rw [if_neg (show ¬ (false = true) by decide)] at H; exact H
                              clear H
                              have H := H1
                              clear H1
                              by_cases c60 : a2 = 5
                              · rw [if_pos c60] at H
                                have c60b0 : (a2 == 5) = true := beq_iff_eq.mpr c60
                                have c60b1 : (a2 != 5) = false := bne_eq_false_iff_eq.mpr c60
                                clear c60
                                have H' := Aside0.mk H
                                clear H
                                go_wp2
                                repeat (go_quiet (fail); try go_wp2)
                                go_meet
                                case rel => exact ⟨_, (!true), (by first | rfl | (simp; done) | (simp [*]; done)), H', ⟨by have := HK1.out; first | omega | exact Nat.le_refl _⟩, ⟨by (with_reducible repeat (first | apply Kd.R_alloc | apply Kd.R_drewN | apply Kd.R_drew)); exact HO_8.out⟩, ⟨by (with_reducible repeat (first | apply Kd.R_alloc | apply Kd.R_drewN | apply Kd.R_drew)); exact HO_9.out⟩, ⟨by repeat (first | (with_reducible first | exact HB.out | apply below_alloc | apply pw_below_drewN | apply below_drew1) | exact HB.out)⟩⟩
                              · rw [if_neg c60] at H
                                have c60b0 : (a2 == 5) = false := beq_eq_false_iff_ne.mpr c60
                                have c60b1 : (a2 != 5) = true := bne_iff_ne.mpr c60
                                have H' := Aside0.mk H
                                clear H
                                go_wp2
                                repeat (go_quiet (fail); try go_wp2)
                                go_meet
                                case rel => exact ⟨_, (false), (by first | rfl | (simp; done) | (simp [*]; done)), H', ⟨by have := HK1.out; first | omega | exact Nat.le_refl _⟩, ⟨by (with_reducible repeat (first | apply Kd.R_alloc | apply Kd.R_drewN | apply Kd.R_drew)); exact HO_8.out⟩, ⟨by (with_reducible repeat (first | apply Kd.R_alloc | apply Kd.R_drewN | apply Kd.R_drew)); exact HO_9.out⟩, ⟨by repeat (first | (with_reducible first | exact HB.out | apply below_alloc | apply pw_below_drewN | apply below_drew1) | exact HB.out)⟩⟩
                          · replace c58 := Bool.eq_false_iff.mpr c58
                            subst c58
                            have H1 : (if a2 = 5 then (goboref3_pick.j1 k1 l0 l1 a2 t346 x9_1 x10_1 x11_1 (!false)) else (goboref3_pick.j1 k1 l0 l1 a2 t346 x9_1 x10_1 x11_1 false)) = some r := by rw [if_neg (show ¬ (false = true) by decide)] at H; exact H
                            clear H
                            have H := H1
                            clear H1
                            by_cases c61 : a2 = 5
                            · rw [if_pos c61] at H
                              have c61b0 : (a2 == 5) = true := beq_iff_eq.mpr c61
                              have c61b1 : (a2 != 5) = false := bne_eq_false_iff_eq.mpr c61
                              clear c61
                              have H' := Aside0.mk H
                              clear H
                              go_wp2
                              repeat (go_quiet (fail); try go_wp2)
                              go_meet
                              case rel => exact ⟨_, (!false), (by first | rfl | (simp; done) | (simp [*]; done)), H', ⟨by have := HK1.out; first | omega | exact Nat.le_refl _⟩, ⟨by (with_reducible repeat (first | apply Kd.R_alloc | apply Kd.R_drewN | apply Kd.R_drew)); exact HO_8.out⟩, ⟨by (with_reducible repeat (first | apply Kd.R_alloc | apply Kd.R_drewN | apply Kd.R_drew)); exact HO_9.out⟩, ⟨by repeat (first | (with_reducible first | exact HB.out | apply below_alloc | apply pw_below_drewN | apply below_drew1) | exact HB.out)⟩⟩
                            · rw [if_neg c61] at H
                              have c61b0 : (a2 == 5) = false := beq_eq_false_iff_ne.mpr c61
                              have c61b1 : (a2 != 5) = true := bne_iff_ne.mpr c61
                              have H' := Aside0.mk H
                              clear H
                              go_wp2
                              repeat (go_quiet (fail); try go_wp2)
                              go_meet
                              case rel => exact ⟨_, (false), (by first | rfl | (simp; done) | (simp [*]; done)), H', ⟨by have := HK1.out; first | omega | exact Nat.le_refl _⟩, ⟨by (with_reducible repeat (first | apply Kd.R_alloc | apply Kd.R_drewN | apply Kd.R_drew)); exact HO_8.out⟩, ⟨by (with_reducible repeat (first | apply Kd.R_alloc | apply Kd.R_drewN | apply Kd.R_drew)); exact HO_9.out⟩, ⟨by repeat (first | (with_reducible first | exact HB.out | apply below_alloc | apply pw_below_drewN | apply below_drew1) | exact HB.out)⟩⟩
                        · rw [if_neg c57] at H
                          have c57b0 : (a2 == 4) = false := beq_eq_false_iff_ne.mpr c57
                          have c57b1 : (a2 != 4) = true := bne_iff_ne.mpr c57
                          by_cases c62 : a2 = 5
                          · rw [if_pos c62] at H
                            have c62b0 : (a2 == 5) = true := beq_iff_eq.mpr c62
                            have c62b1 : (a2 != 5) = false := bne_eq_false_iff_eq.mpr c62
                            clear c62
                            have H' := Aside0.mk H
                            clear H
                            go_wp2
                            repeat (go_quiet (fail); try go_wp2)
                            go_meet
                            case rel => exact ⟨_, (!t350), (by first | rfl | (simp; done) | (simp [*]; done)), H', ⟨by have := HK1.out; first | omega | exact Nat.le_refl _⟩, ⟨by (with_reducible repeat (first | apply Kd.R_alloc | apply Kd.R_drewN | apply Kd.R_drew)); exact HO_8.out⟩, ⟨by (with_reducible repeat (first | apply Kd.R_alloc | apply Kd.R_drewN | apply Kd.R_drew)); exact HO_9.out⟩, ⟨by repeat (first | (with_reducible first | exact HB.out | apply below_alloc | apply pw_below_drewN | apply below_drew1) | exact HB.out)⟩⟩
                          · rw [if_neg c62] at H
                            have c62b0 : (a2 == 5) = false := beq_eq_false_iff_ne.mpr c62
                            have c62b1 : (a2 != 5) = true := bne_iff_ne.mpr c62
                            have H' := Aside0.mk H
                            clear H
                            go_wp2
                            repeat (go_quiet (fail); try go_wp2)
                            go_meet
                            case rel => exact ⟨_, (false), (by first | rfl | (simp; done) | (simp [*]; done)), H', ⟨by have := HK1.out; first | omega | exact Nat.le_refl _⟩, ⟨by (with_reducible repeat (first | apply Kd.R_alloc | apply Kd.R_drewN | apply Kd.R_drew)); exact HO_8.out⟩, ⟨by (with_reducible repeat (first | apply Kd.R_alloc | apply Kd.R_drewN | apply Kd.R_drew)); exact HO_9.out⟩, ⟨by repeat (first | (with_reducible first | exact HB.out | apply below_alloc | apply pw_below_drewN | apply below_drew1) | exact HB.out)⟩⟩
                case rest =>
                  clear HC18
                  try clear c2
                  try clear p2
                  try clear c3
                  try clear c4
                  try clear c5
                  try clear c6
                  try clear c20
                  try clear c20b0
                  try clear c20b1
                  try clear c22
                  try clear c22b0
                  try clear c22b1
                  try clear c24
                  try clear c24b0
                  try clear c24b1
                  try clear c25
                  try clear c25b0
                  try clear c25b1
                  try clear c26
                  try clear c26b0
                  try clear c26b1
                  try clear c27
                  try clear c27b0
                  try clear c27b1
                  try clear c28
                  try clear c28b0
                  try clear c28b1
                  try clear c29
                  try clear c29b0
                  try clear c29b1
                  try clear c30
                  try clear c30b0
                  try clear c30b1
                  try clear c31
                  try clear c31b0
                  try clear c31b1
                  try clear c32
                  try clear c33
                  try clear c33b0
                  try clear c33b1
                  try clear c34
                  try clear c34b0
                  try clear c34b1
                  try clear c35
                  try clear c35b0
                  try clear c35b1
                  try clear c36
                  try clear c36b0
                  try clear c36b1
                  try clear c37
                  try clear c37b0
                  try clear c37b1
                  try clear c38
                  try clear c38b0
                  try clear c38b1
                  try clear c39
                  try clear c39b0
                  try clear c39b1
                  try clear c40
                  try clear c41
                  try clear c41b0
                  try clear c41b1
                  try clear c42
                  try clear c43
                  try clear c43b0
                  try clear c43b1
                  try clear c44
                  try clear c44b0
                  try clear c44b1
                  try clear c45
                  try clear c45b0
                  try clear c45b1
                  try clear c46
                  try clear c46b0
                  try clear c46b1
                  try clear c47
                  try clear c48
                  try clear c48b0
                  try clear c48b1
                  try clear c49
                  try clear c49b0
                  try clear c49b1
                  try clear c50
                  try clear c50b0
                  try clear c50b1
                  try clear c51
                  try clear c51b0
                  try clear c51b1
                  try clear c52
                  try clear c53
                  try clear c54
                  try clear c54b0
                  try clear c54b1
                  try clear c55
                  try clear c55b0
                  try clear c55b1
                  try clear c56
                  try clear c56b0
                  try clear c56b1
                  try clear c57
                  try clear c57b0
                  try clear c57b1
                  try clear c58
                  try clear c59
                  try clear c60
                  try clear c60b0
                  try clear c60b1
                  try clear c61
                  try clear c61b0
                  try clear c61b1
                  try clear c62
                  try clear c62b0
                  try clear c62b1
                  obtain ⟨kq, x14_17, rfl, HA, HJ17, HO_8, HO_9, HB⟩ := hcut
                  cases kq with
                  | zero => exact absurd HA.out (by simp [goboref3_pick.j1])
                  | succ kj17 =>
                    have H := HA.out
                    clear HA
                    simp only [goboref3_pick.j1] at H
                    have HC63 := Aside0.mk H
                    clear H
                    go_upto_region 10 with (fail)
                    repeat (go_quiet (fail); go_upto_region 10 with (fail))
                    go_cut [86] (fun v86 wc => ∃ (kq : Nat) (x86_62 : Bool), v86 = .bool x86_62 ∧ Aside0 (goboref3_pick.j2 kq l0 l1 a2 t346 x9_1 x11_1 x14_17 x86_62 = some r) ∧ Aside0 (kq ≤ kj17) ∧ Aside0 (Kd.R (Kd.int .i64) 3 wc w.heap.size (fun _ => True) (.slice (some ad349) t346.length co19) t346) ∧ Aside0 (Kd.R k35 35 wc w.heap.size (fun _ => True) u9 x9_1) ∧ Aside0 (Below w.heap.size w wc))
                    case first =>
                      have H := HC63.out
                      clear HC63
                      by_cases c64 : x14_17 = true
                      · subst c64
                        have H1 : (goboref3_pick.j2 kj17 l0 l1 a2 t346 x9_1 x11_1 true (!x10_1)) = some r := by rw [if_pos rfl] at H; exact H
                        clear H
                        have H := H1
                        clear H1
                        have H' := Aside0.mk H
                        clear H
                        go_wp2
                        repeat (go_quiet (fail); try go_wp2)
                        go_meet
                        case rel => exact ⟨_, (!x10_1), (by first | rfl | (simp; done) | (simp [*]; done)), H', ⟨by have := HK1.out; have := HJ17.out; first | omega | exact Nat.le_refl _⟩, ⟨by (with_reducible repeat (first | apply Kd.R_alloc | apply Kd.R_drewN | apply Kd.R_drew)); exact HO_8.out⟩, ⟨by (with_reducible repeat (first | apply Kd.R_alloc | apply Kd.R_drewN | apply Kd.R_drew)); exact HO_9.out⟩, ⟨by repeat (first | (with_reducible first | exact HB.out | apply below_alloc | apply pw_below_drewN | apply below_drew1) | exact HB.out)⟩⟩
                      · replace c64 := Bool.eq_false_iff.mpr c64
                        subst c64
                        have H1 : (goboref3_pick.j2 kj17 l0 l1 a2 t346 x9_1 x11_1 false false) = some r := by rw [if_neg (show ¬ (false = true) by decide)] at H; exact H
                        clear H
                        have H := H1
                        clear H1
                        have H' := Aside0.mk H
                        clear H
                        go_wp2
                        repeat (go_quiet (fail); try go_wp2)
                        go_meet
                        case rel => exact ⟨_, (false), (by first | rfl | (simp; done) | (simp [*]; done)), H', ⟨by have := HK1.out; have := HJ17.out; first | omega | exact Nat.le_refl _⟩, ⟨by (with_reducible repeat (first | apply Kd.R_alloc | apply Kd.R_drewN | apply Kd.R_drew)); exact HO_8.out⟩, ⟨by (with_reducible repeat (first | apply Kd.R_alloc | apply Kd.R_drewN | apply Kd.R_drew)); exact HO_9.out⟩, ⟨by repeat (first | (with_reducible first | exact HB.out | apply below_alloc | apply pw_below_drewN | apply below_drew1) | exact HB.out)⟩⟩
                    case rest =>
                      clear HC63
                      try clear c2
                      try clear p2
                      try clear c3
                      try clear c4
                      try clear c5
                      try clear c6
                      try clear c20
                      try clear c20b0
                      try clear c20b1
                      try clear c22
                      try clear c22b0
                      try clear c22b1
                      try clear c24
                      try clear c24b0
                      try clear c24b1
                      try clear c25
                      try clear c25b0
                      try clear c25b1
                      try clear c26
                      try clear c26b0
                      try clear c26b1
                      try clear c27
                      try clear c27b0
                      try clear c27b1
                      try clear c28
                      try clear c28b0
                      try clear c28b1
                      try clear c29
                      try clear c29b0
                      try clear c29b1
                      try clear c30
                      try clear c30b0
                      try clear c30b1
                      try clear c31
                      try clear c31b0
                      try clear c31b1
                      try clear c32
                      try clear c33
                      try clear c33b0
                      try clear c33b1
                      try clear c34
                      try clear c34b0
                      try clear c34b1
                      try clear c35
                      try clear c35b0
                      try clear c35b1
                      try clear c36
                      try clear c36b0
                      try clear c36b1
                      try clear c37
                      try clear c37b0
                      try clear c37b1
                      try clear c38
                      try clear c38b0
                      try clear c38b1
                      try clear c39
                      try clear c39b0
                      try clear c39b1
                      try clear c40
                      try clear c41
                      try clear c41b0
                      try clear c41b1
                      try clear c42
                      try clear c43
                      try clear c43b0
                      try clear c43b1
                      try clear c44
                      try clear c44b0
                      try clear c44b1
                      try clear c45
                      try clear c45b0
                      try clear c45b1
                      try clear c46
                      try clear c46b0
                      try clear c46b1
                      try clear c47
                      try clear c48
                      try clear c48b0
                      try clear c48b1
                      try clear c49
                      try clear c49b0
                      try clear c49b1
                      try clear c50
                      try clear c50b0
                      try clear c50b1
                      try clear c51
                      try clear c51b0
                      try clear c51b1
                      try clear c52
                      try clear c53
                      try clear c54
                      try clear c54b0
                      try clear c54b1
                      try clear c55
                      try clear c55b0
                      try clear c55b1
                      try clear c56
                      try clear c56b0
                      try clear c56b1
                      try clear c57
                      try clear c57b0
                      try clear c57b1
                      try clear c58
                      try clear c59
                      try clear c60
                      try clear c60b0
                      try clear c60b1
                      try clear c61
                      try clear c61b0
                      try clear c61b1
                      try clear c62
                      try clear c62b0
                      try clear c62b1
                      try clear c64
                      try clear p2
                      obtain ⟨kq, x86_62, rfl, HA, HJ62, HO_8, HO_9, HB⟩ := hcut
                      cases kq with
                      | zero => exact absurd HA.out (by simp [goboref3_pick.j2])
                      | succ kj62 =>
                        have H := HA.out
                        clear HA
                        simp only [goboref3_pick.j2] at H
                        by_cases c65 : x86_62 = true
                        · subst c65
                          have H1 : (if 0 ≤ x11_1 then (if x11_1 < (t346.length : Int) then ((goboref3_at.f (rd t346 x11_1)).bind fun t354 => (if x9_1.length < 17592186044416 then ((some (x9_1 ++ [(⟨t354, 0⟩ : S35)] : List (S35))).bind fun y355 => (if x14_17 = true then (if 0 ≤ (wrap64 (x11_1 + 1)) then (if (wrap64 (x11_1 + 1)) < (t346.length : Int) then ((goboref3_at.f (wrap64 ((rd t346 (wrap64 (x11_1 + 1))) - 1))).bind fun t359 => (if 0 ≤ (wrap64 ((y355.length : Int) - 1)) then (if (wrap64 ((y355.length : Int) - 1)) < (y355.length : Int) then (goboref3_pick.l0 kj62 l0 l1 a2 t346 (y355.set ((wrap64 ((y355.length : Int) - 1)) : Int).toNat (⟨(rd_T35 y355 (wrap64 ((y355.length : Int) - 1))).f0, t359⟩ : S35)) x14_17 (wrap64 (x11_1 + 1))) else (none)) else (none))) else (none)) else (none)) else (goboref3_pick.l0 kj62 l0 l1 a2 t346 y355 x14_17 (wrap64 (x11_1 + 1))))) else (none))) else (none)) else (none)) = some r := by rw [if_pos rfl] at H; exact H
                          clear H
                          have H := H1
                          clear H1
                          by_cases c66 : 0 ≤ x11_1
                          · rw [if_pos c66] at H
                            have c66b0 : decide (0 ≤ x11_1) = true := decide_eq_true c66
                            clear c66
                            by_cases c67 : x11_1 < (t346.length : Int)
                            · rw [if_pos c67] at H
                              have c67b0 : decide (x11_1 < (t346.length : Int)) = true := decide_eq_true c67
                              clear c67
                              replace H := Option.bind_eq_some_iff.mp H
                              obtain ⟨t354, A680, H⟩ := H
                              replace H : (if x9_1.length < 17592186044416 then ((some (x9_1 ++ [(⟨t354, 0⟩ : S35)] : List (S35))).bind fun y355 => (if x14_17 = true then (if 0 ≤ (wrap64 (x11_1 + 1)) then (if (wrap64 (x11_1 + 1)) < (t346.length : Int) then ((goboref3_at.f (wrap64 ((rd t346 (wrap64 (x11_1 + 1))) - 1))).bind fun t359 => (if 0 ≤ (wrap64 ((y355.length : Int) - 1)) then (if (wrap64 ((y355.length : Int) - 1)) < (y355.length : Int) then (goboref3_pick.l0 kj62 l0 l1 a2 t346 (y355.set ((wrap64 ((y355.length : Int) - 1)) : Int).toNat (⟨(rd_T35 y355 (wrap64 ((y355.length : Int) - 1))).f0, t359⟩ : S35)) x14_17 (wrap64 (x11_1 + 1))) else (none)) else (none))) else (none)) else (none)) else (goboref3_pick.l0 kj62 l0 l1 a2 t346 y355 x14_17 (wrap64 (x11_1 + 1))))) else (none)) = some r := H
                              have A68 := Aside0.mk A680
                              clear A680
                              by_cases c69 : x9_1.length < 17592186044416
                              · rw [if_pos c69] at H
                                have LMc69 := Aside0.mk c69
                                clear c69
                                obtain ⟨y355, hy355⟩ : ∃ y_ : List (S35), y_ = (x9_1 ++ [(⟨t354, 0⟩ : S35)]) := ⟨_, rfl⟩
                                replace H : (if x14_17 = true then (if 0 ≤ (wrap64 (x11_1 + 1)) then (if (wrap64 (x11_1 + 1)) < (t346.length : Int) then ((goboref3_at.f (wrap64 ((rd t346 (wrap64 (x11_1 + 1))) - 1))).bind fun t359 => (if 0 ≤ (wrap64 ((y355.length : Int) - 1)) then (if (wrap64 ((y355.length : Int) - 1)) < (y355.length : Int) then (goboref3_pick.l0 kj62 l0 l1 a2 t346 (y355.set ((wrap64 ((y355.length : Int) - 1)) : Int).toNat (⟨(rd_T35 y355 (wrap64 ((y355.length : Int) - 1))).f0, t359⟩ : S35)) x14_17 (wrap64 (x11_1 + 1))) else (none)) else (none))) else (none)) else (none)) else (goboref3_pick.l0 kj62 l0 l1 a2 t346 y355 x14_17 (wrap64 (x11_1 + 1)))) = some r := by first | (rw [hy355]; with_reducible exact H) | (have H2_ := (Option.bind_some _ _).symm.trans H; rw [hy355]; with_reducible exact H2_) | (have H2_ := (Option.bind_some _ _).symm.trans H; with_reducible exact H2_) | with_reducible exact H | (rw [hy355]; exact H) | exact H
                                have Ny355 := Aside0.mk hy355
                                clear hy355
                                by_cases c70 : x14_17 = true
                                · subst c70
                                  have H1 : (if 0 ≤ (wrap64 (x11_1 + 1)) then (if (wrap64 (x11_1 + 1)) < (t346.length : Int) then ((goboref3_at.f (wrap64 ((rd t346 (wrap64 (x11_1 + 1))) - 1))).bind fun t359 => (if 0 ≤ (wrap64 ((y355.length : Int) - 1)) then (if (wrap64 ((y355.length : Int) - 1)) < (y355.length : Int) then (goboref3_pick.l0 kj62 l0 l1 a2 t346 (y355.set ((wrap64 ((y355.length : Int) - 1)) : Int).toNat (⟨(rd_T35 y355 (wrap64 ((y355.length : Int) - 1))).f0, t359⟩ : S35)) true (wrap64 (x11_1 + 1))) else (none)) else (none))) else (none)) else (none)) = some r := by rw [if_pos rfl] at H; exact H
                                  clear H
                                  have H := H1
                                  clear H1
                                  obtain ⟨ji71, hji71⟩ : ∃ j_ : Int, (wrap64 (x11_1 + 1)) = j_ := ⟨_, rfl⟩
                                  replace H : (if 0 ≤ (ji71) then (if (ji71) < (t346.length : Int) then ((goboref3_at.f (wrap64 ((rd t346 (ji71)) - 1))).bind fun t359 => (if 0 ≤ (wrap64 ((y355.length : Int) - 1)) then (if (wrap64 ((y355.length : Int) - 1)) < (y355.length : Int) then (goboref3_pick.l0 kj62 l0 l1 a2 t346 (y355.set ((wrap64 ((y355.length : Int) - 1)) : Int).toNat (⟨(rd_T35 y355 (wrap64 ((y355.length : Int) - 1))).f0, t359⟩ : S35)) true ji71) else (none)) else (none))) else (none)) else (none)) = some r := by first | (rw [hji71] at H; exact H) | (simp only [hji71] at H ⊢; exact H)
                                  (try rw [hji71] at c13b0)
                                  (try rw [hji71] at A68)
                                  have hji71w : (IntKind.i64.wrap (x11_1 + 1)) = ji71 := (i64_w _).trans hji71
                                  by_cases c72 : 0 ≤ (ji71)
                                  · rw [if_pos c72] at H
                                    have c72b0 : decide (0 ≤ (ji71)) = true := decide_eq_true c72
                                    clear c72
                                    by_cases c73 : (ji71) < (t346.length : Int)
                                    · rw [if_pos c73] at H
                                      have c73b0 : decide ((ji71) < (t346.length : Int)) = true := decide_eq_true c73
                                      clear c73
                                      replace H := Option.bind_eq_some_iff.mp H
                                      obtain ⟨t359, A740, H⟩ := H
                                      replace H : (if 0 ≤ (wrap64 ((y355.length : Int) - 1)) then (if (wrap64 ((y355.length : Int) - 1)) < (y355.length : Int) then (goboref3_pick.l0 kj62 l0 l1 a2 t346 (y355.set ((wrap64 ((y355.length : Int) - 1)) : Int).toNat (⟨(rd_T35 y355 (wrap64 ((y355.length : Int) - 1))).f0, t359⟩ : S35)) true ji71) else (none)) else (none)) = some r := H
                                      have A74 := Aside0.mk A740
                                      clear A740
                                      obtain ⟨ji75, hji75⟩ : ∃ j_ : Int, (wrap64 ((y355.length : Int) - 1)) = j_ := ⟨_, rfl⟩
                                      replace H : (if 0 ≤ (ji75) then (if (ji75) < (y355.length : Int) then (goboref3_pick.l0 kj62 l0 l1 a2 t346 (y355.set ((ji75) : Int).toNat (⟨(rd_T35 y355 (ji75)).f0, t359⟩ : S35)) true ji71) else (none)) else (none)) = some r := by first | (rw [hji75] at H; exact H) | (simp only [hji75] at H ⊢; exact H)
                                      (try rw [hji75] at A68)
                                      (try rw [hji75] at A74)
                                      have hji75w : (IntKind.i64.wrap ((y355.length : Int) - 1)) = ji75 := (i64_w _).trans hji75
                                      by_cases c76 : 0 ≤ (ji75)
                                      · rw [if_pos c76] at H
                                        have c76b0 : decide (0 ≤ (ji75)) = true := decide_eq_true c76
                                        clear c76
                                        by_cases c77 : (ji75) < (y355.length : Int)
                                        · rw [if_pos c77] at H
                                          have c77b0 : decide ((ji75) < (y355.length : Int)) = true := decide_eq_true c77
                                          clear c77
                                          obtain ⟨y360, hy360⟩ : ∃ y_ : List (S35), y_ = (y355.set ((ji75) : Int).toNat (⟨(rd_T35 y355 (ji75)).f0, t359⟩ : S35)) := ⟨_, rfl⟩
                                          replace H : (goboref3_pick.l0 kj62 l0 l1 a2 t346 y360 true ji71) = some r := by first | (rw [hy360]; with_reducible exact H) | (have H2_ := (Option.bind_some _ _).symm.trans H; rw [hy360]; with_reducible exact H2_) | (have H2_ := (Option.bind_some _ _).symm.trans H; with_reducible exact H2_) | with_reducible exact H | (rw [hy360]; exact H) | exact H
                                          have Ny360 := Aside0.mk hy360
                                          clear hy360
                                          have H' := Aside0.mk H
                                          clear H
                                          have p353 : 0 ≤ (x11_1 : Int) := of_decide_eq_true (by first | (with_reducible assumption) | assumption)
                                          have q353 : x11_1 < (t346.length : Int) := of_decide_eq_true (by first | (with_reducible assumption) | assumption)
                                          obtain ⟨ad353, e353, hx353_0⟩ := Kd.at_int (Kd.R_reads' HO_8.out).2.2 x11_1 p353 q353
                                          obtain rfl : ad349 = ad353 := (by injection e353)
                                          replace p353 := eq_true p353
                                          replace q353 := eq_true q353
                                          go_wp2_with (first | (go_at_call 44; (with_reducible refine (goboref3_at.calls (rd t346 x11_1) t354 _ A68.out).mono ?_); rintro e w' ⟨rfl, ⟨nd, rfl⟩⟩; (try first | exact ⟨rfl, _, World.drewN_drewN _ _ _⟩ | exact ⟨rfl, _, Eq.trans (World.drewN_drewN _ _ _) (congrArg (World.drewN _) (Nat.add_assoc _ _ _))⟩)) | ((with_reducible refine gate_builtin (b := .append) (xs := #[.tmp 87, .tmp 94]) rfl ?_); at_builtin; refine Kd.R_append k35 (w0 := w) w.heap.size rfl (.tmp 87) (.tmp 94) 22 35 (.agg #[(.int .i32 0), (.int .i32 0)]) 8 rfl Try.underlying22 info35 rfl (by decide) (by omega) u9 x9_1 (⟨t354, 0⟩ : S35) [.int .i32 t354, .int .i32 0] (fun _ => True) (fun _ => False) rfl rfl ?aP (fun _ hk => hk.elim) ?aF ?aO ?aB ?aS ?aL ?_; (case aP => exact k35_mkM _ _ _ (⟨t354, 0⟩ : S35)); (case aB => exact (by repeat (first | (with_reducible first | exact HB.out | apply below_alloc | apply pw_below_drewN | apply below_drew1) | exact HB.out))); (case aF => exact (fun _ _ => trivial)); (case aO => exact (by (with_reducible repeat (first | apply Kd.R_alloc | apply Kd.R_drewN | apply Kd.R_drew)); exact HO_9.out)); (case aS => exact (below_size (by repeat (first | (with_reducible first | exact HB.out | apply below_alloc | apply pw_below_drewN | apply below_drew1) | exact HB.out)))); (case aL => have := LMc69.out; omega); intro v356 w79 ho hb hg hat; rw [← Ny355.out] at ho; have n0_ := Aside0.mk (Kd.R_over' (by (with_reducible repeat (first | apply Kd.R_alloc | apply Kd.R_drewN | apply Kd.R_drew)); exact HO_8.out) (Kd.R_typed (by (with_reducible repeat (first | apply Kd.R_alloc | apply Kd.R_drewN | apply Kd.R_drew)); exact HO_9.out)) (by decide) hg); have n1_ := Aside0.mk (hb); have n2_ := Aside0.mk (ho); clear HO_8; clear HB; clear HO_9; have HO_8 := n0_; have HB := n1_; have HO357 := n2_; clear n0_ n1_ n2_; clear ho hb hg hat; obtain ⟨Ao80, co80, eo80⟩ := Kd.R_slice HO357.out; subst eo80; have p358 : 0 ≤ ((ji71) : Int) := of_decide_eq_true (by first | (with_reducible assumption) | assumption); have q358 : (ji71) < (t346.length : Int) := of_decide_eq_true (by first | (with_reducible assumption) | assumption); obtain ⟨ad358, e358, hx358_0⟩ := Kd.at_int (Kd.R_reads' HO_8.out).2.2 (ji71) p358 q358; obtain rfl : ad349 = ad358 := (by injection e358); replace p358 := eq_true p358; replace q358 := eq_true q358) | (go_at_call 44; (with_reducible refine (goboref3_at.calls (wrap64 ((rd t346 (ji71)) - 1)) t359 _ A74.out).mono ?_); rintro e w' ⟨rfl, ⟨nd, rfl⟩⟩; (try first | exact ⟨rfl, _, World.drewN_drewN _ _ _⟩ | exact ⟨rfl, _, Eq.trans (World.drewN_drewN _ _ _) (congrArg (World.drewN _) (Nat.add_assoc _ _ _))⟩); have p78 : 0 ≤ ((ji75) : Int) := of_decide_eq_true (by first | (with_reducible assumption) | assumption); have q78 : ((ji75) : Int) < ((y355.length : Int) : Int) := of_decide_eq_true (by first | (with_reducible assumption) | assumption); obtain ⟨go78, co78, eo78, gb78, gl78, cl78, HG78⟩ := Kd.R_form HO357.out (by omega); (first | cases eo78 | (injection eo78 with ea_ en_ ec_; (first | subst ea_ | (injection ea_ with ea_; subst ea_)); subst ec_; clear en_)); have GB78 := Aside0.mk gb78; have GG78 := Aside0.mk HG78; clear gb78 gl78 HG78; obtain ⟨ce78, hcl78, hM78, hcc78, hfr78⟩ := Kd.R_elem HO357.out z35 ((ji75) : Int) p78 q78; obtain rfl := k35_openM hM78; have hx78_0 : w79.cell? ⟨go78, ((ji75) : Int).toNat * 2, none⟩ = some (.int .i32 ((rd_T35 y355 (ji75)).f0)) := hcc78 0 _ rfl; have hx78_1 : w79.cell? ⟨go78, ((ji75) : Int).toNat * 2 + 1, none⟩ = some (.int .i32 ((rd_T35 y355 (ji75)).f1)) := hcc78 1 _ rfl; have hf78_0 : w79.frozen? ⟨go78, ((ji75) : Int).toNat * 2, none⟩ = false := hfr78 0; have hf78_1 : w79.frozen? ⟨go78, ((ji75) : Int).toNat * 2 + 1, none⟩ = false := hfr78 1; clear hcl78 hcc78 hfr78 hM78; replace p78 := eq_true p78; replace q78 := eq_true q78; have HX81 := Aside0.mk (show Kd.R k35 35 w79 w.heap.size (fun _ => True) (.slice (some ⟨go78, 0, none⟩) y355.length co80) y355 from (by (with_reducible repeat (first | apply Kd.R_alloc | apply Kd.R_drewN | apply Kd.R_drew)); exact HO357.out)); obtain ⟨ce81, hcl81, hM81, hcc81, hfr81⟩ := Kd.R_elem HX81.out z35 ((ji75) : Int) (of_decide_eq_true (by first | (with_reducible assumption) | assumption)) (by have h_ : ((ji75) : Int) < ((y355.length : Int) : Int) := of_decide_eq_true (by first | (with_reducible assumption) | assumption); first | exact h_ | (have e_ := (Kd.R_reads' HO357.out).1; omega) | simpa using h_); obtain rfl := k35_openM hM81; have HP81 := Kd.R_seg HX81.out ((ji75) : Int) (of_decide_eq_true (by first | (with_reducible assumption) | assumption)) (by have h_ : ((ji75) : Int) < ((y355.length : Int) : Int) := of_decide_eq_true (by first | (with_reducible assumption) | assumption); first | exact h_ | (have e_ := (Kd.R_reads' HO357.out).1; omega) | simpa using h_) (seg := [.int .i32 t359]) (j := 1) hcl81 hcc81 (show 2 ≤ 2 from by decide) (x' := (⟨(rd_T35 y355 (ji75)).f0, t359⟩ : S35)) (k35_mkM _ _ _ (⟨(rd_T35 y355 (ji75)).f0, t359⟩ : S35) ) (fun _ hk => hk); have hx81_1 := hcc81 1 _ rfl; (try simp only [show (k35).sz = 2 from rfl, Nat.mul_one, Nat.add_zero] at hx81_1); have hf81_1 := hfr81 1; (try simp only [show (k35).sz = 2 from rfl, Nat.mul_one, Nat.add_zero] at hf81_1); clear hcl81 hcc81 hfr81 hM81) | ((with_reducible refine gate_store (t := 21) (p := 109) rfl ?_); (try (rw [drewN_self w79]; generalize hq_ : World.drewN w79 _ = w79; have n0_ := Aside0.mk (Kd.R_at hq_ HO_8.out); have n1_ := Aside0.mk (Kd.R_at hq_ HO357.out); have n2_ := Aside0.mk (below_at hq_ HB.out); clear hq_ HO_8 HO357 HB; have HO_8 := n0_; have HO357 := n1_; have HB := n2_; clear n0_ n1_ n2_; (try (have HX81 := Aside0.mk (show Kd.R k35 35 w79 w.heap.size (fun _ => True) (.slice (some ⟨go78, 0, none⟩) y355.length co80) y355 from (by (with_reducible repeat (first | apply Kd.R_alloc | apply Kd.R_drewN | apply Kd.R_drew)); exact HO357.out)))); (try (obtain ⟨ce81, hcl81, hM81, hcc81, hfr81⟩ := Kd.R_elem HX81.out z35 ((ji75) : Int) (of_decide_eq_true (by first | (with_reducible assumption) | assumption)) (by have h_ : ((ji75) : Int) < ((y355.length : Int) : Int) := of_decide_eq_true (by first | (with_reducible assumption) | assumption); first | exact h_ | (have e_ := (Kd.R_reads' HO357.out).1; omega) | simpa using h_))); (try (obtain rfl := k35_openM hM81)); (try (have HP81 := Kd.R_seg HX81.out ((ji75) : Int) (of_decide_eq_true (by first | (with_reducible assumption) | assumption)) (by have h_ : ((ji75) : Int) < ((y355.length : Int) : Int) := of_decide_eq_true (by first | (with_reducible assumption) | assumption); first | exact h_ | (have e_ := (Kd.R_reads' HO357.out).1; omega) | simpa using h_) (seg := [.int .i32 t359]) (j := 1) hcl81 hcc81 (show 2 ≤ 2 from by decide) (x' := (⟨(rd_T35 y355 (ji75)).f0, t359⟩ : S35)) (k35_mkM _ _ _ (⟨(rd_T35 y355 (ji75)).f0, t359⟩ : S35) ) (fun _ hk => hk))); (try (have hx81_1 := hcc81 1 _ rfl)); (try (try simp only [show (k35).sz = 2 from rfl, Nat.mul_one, Nat.add_zero] at hx81_1)); (try (have hf81_1 := hfr81 1)); (try (try simp only [show (k35).sz = 2 from rfl, Nat.mul_one, Nat.add_zero] at hf81_1)); (try (clear hcl81 hcc81 hfr81 hM81)))); refine store_event (t := 21) (p := 109) (v := ?vo_w82) (w1 := (w79.setCell ⟨go78, ((ji75) : Int).toNat * 2 + 1, none⟩ (.int .i32 t359))) ?hg ?ho ?hn ?hr ?_; (case ho => rfl); (case hg => rfl); (case hn => rfl); (case hr => first | (go_simp; done) | (go_simp; rfl)); intro w82 hw; have hg : w79.grownBy w82 (some go78) := (by rw [hw]; exact HP81.2); have hp_ : Kd.R k35 35 w82 w.heap.size (fun _ => True) (.slice (some ⟨go78, 0, none⟩) y355.length co80) y360 := (by rw [hw, Ny360.out]; exact HP81.1); clear HP81; have n0_ := Aside0.mk (Kd.R_over' (v := (.slice (some ⟨go78, 0, none⟩) y355.length co80)) (by (with_reducible repeat (first | apply Kd.R_alloc | apply Kd.R_drewN | apply Kd.R_drew)); exact HO_8.out) (Kd.R_typed HO357.out) (by decide) hg); have n1_ := Aside0.mk (hp_); have n2_ := Aside0.mk ((by rw [hw]; exact below_set (HB.out) GB78.out : Below w.heap.size w w82)); clear HO_8; clear HO357; clear HB; have HO_8 := n0_; have HO357 := n1_; have HB := n2_; clear n0_ n1_ n2_; clear hg hw hp_))
                                          repeat (go_quiet (first | (go_at_call 44; (with_reducible refine (goboref3_at.calls (rd t346 x11_1) t354 _ A68.out).mono ?_); rintro e w' ⟨rfl, ⟨nd, rfl⟩⟩; (try first | exact ⟨rfl, _, World.drewN_drewN _ _ _⟩ | exact ⟨rfl, _, Eq.trans (World.drewN_drewN _ _ _) (congrArg (World.drewN _) (Nat.add_assoc _ _ _))⟩)) | ((with_reducible refine gate_builtin (b := .append) (xs := #[.tmp 87, .tmp 94]) rfl ?_); at_builtin; refine Kd.R_append k35 (w0 := w) w.heap.size rfl (.tmp 87) (.tmp 94) 22 35 (.agg #[(.int .i32 0), (.int .i32 0)]) 8 rfl Try.underlying22 info35 rfl (by decide) (by omega) u9 x9_1 (⟨t354, 0⟩ : S35) [.int .i32 t354, .int .i32 0] (fun _ => True) (fun _ => False) rfl rfl ?aP (fun _ hk => hk.elim) ?aF ?aO ?aB ?aS ?aL ?_; (case aP => exact k35_mkM _ _ _ (⟨t354, 0⟩ : S35)); (case aB => exact (by repeat (first | (with_reducible first | exact HB.out | apply below_alloc | apply pw_below_drewN | apply below_drew1) | exact HB.out))); (case aF => exact (fun _ _ => trivial)); (case aO => exact (by (with_reducible repeat (first | apply Kd.R_alloc | apply Kd.R_drewN | apply Kd.R_drew)); exact HO_9.out)); (case aS => exact (below_size (by repeat (first | (with_reducible first | exact HB.out | apply below_alloc | apply pw_below_drewN | apply below_drew1) | exact HB.out)))); (case aL => have := LMc69.out; omega); intro v356 w79 ho hb hg hat; rw [← Ny355.out] at ho; have n0_ := Aside0.mk (Kd.R_over' (by (with_reducible repeat (first | apply Kd.R_alloc | apply Kd.R_drewN | apply Kd.R_drew)); exact HO_8.out) (Kd.R_typed (by (with_reducible repeat (first | apply Kd.R_alloc | apply Kd.R_drewN | apply Kd.R_drew)); exact HO_9.out)) (by decide) hg); have n1_ := Aside0.mk (hb); have n2_ := Aside0.mk (ho); clear HO_8; clear HB; clear HO_9; have HO_8 := n0_; have HB := n1_; have HO357 := n2_; clear n0_ n1_ n2_; clear ho hb hg hat; obtain ⟨Ao80, co80, eo80⟩ := Kd.R_slice HO357.out; subst eo80; have p358 : 0 ≤ ((ji71) : Int) := of_decide_eq_true (by first | (with_reducible assumption) | assumption); have q358 : (ji71) < (t346.length : Int) := of_decide_eq_true (by first | (with_reducible assumption) | assumption); obtain ⟨ad358, e358, hx358_0⟩ := Kd.at_int (Kd.R_reads' HO_8.out).2.2 (ji71) p358 q358; obtain rfl : ad349 = ad358 := (by injection e358); replace p358 := eq_true p358; replace q358 := eq_true q358) | (go_at_call 44; (with_reducible refine (goboref3_at.calls (wrap64 ((rd t346 (ji71)) - 1)) t359 _ A74.out).mono ?_); rintro e w' ⟨rfl, ⟨nd, rfl⟩⟩; (first | exact ⟨rfl, _, World.drewN_drewN _ _ _⟩ | exact ⟨rfl, _, Eq.trans (World.drewN_drewN _ _ _) (congrArg (World.drewN _) (Nat.add_assoc _ _ _))⟩ | (have p78 : 0 ≤ ((ji75) : Int) := of_decide_eq_true (by first | (with_reducible assumption) | assumption); have q78 : ((ji75) : Int) < ((y355.length : Int) : Int) := of_decide_eq_true (by first | (with_reducible assumption) | assumption); obtain ⟨go78, co78, eo78, gb78, gl78, cl78, HG78⟩ := Kd.R_form HO357.out (by omega); (first | cases eo78 | (injection eo78 with ea_ en_ ec_; (first | subst ea_ | (injection ea_ with ea_; subst ea_)); subst ec_; clear en_)); have GB78 := Aside0.mk gb78; have GG78 := Aside0.mk HG78; clear gb78 gl78 HG78; obtain ⟨ce78, hcl78, hM78, hcc78, hfr78⟩ := Kd.R_elem HO357.out z35 ((ji75) : Int) p78 q78; obtain rfl := k35_openM hM78; have hx78_0 : w79.cell? ⟨go78, ((ji75) : Int).toNat * 2, none⟩ = some (.int .i32 ((rd_T35 y355 (ji75)).f0)) := hcc78 0 _ rfl; have hx78_1 : w79.cell? ⟨go78, ((ji75) : Int).toNat * 2 + 1, none⟩ = some (.int .i32 ((rd_T35 y355 (ji75)).f1)) := hcc78 1 _ rfl; have hf78_0 : w79.frozen? ⟨go78, ((ji75) : Int).toNat * 2, none⟩ = false := hfr78 0; have hf78_1 : w79.frozen? ⟨go78, ((ji75) : Int).toNat * 2 + 1, none⟩ = false := hfr78 1; clear hcl78 hcc78 hfr78 hM78; replace p78 := eq_true p78; replace q78 := eq_true q78; have HX81 := Aside0.mk (show Kd.R k35 35 w79 w.heap.size (fun _ => True) (.slice (some ⟨go78, 0, none⟩) y355.length co80) y355 from (by (with_reducible repeat (first | apply Kd.R_alloc | apply Kd.R_drewN | apply Kd.R_drew)); exact HO357.out)); obtain ⟨ce81, hcl81, hM81, hcc81, hfr81⟩ := Kd.R_elem HX81.out z35 ((ji75) : Int) (of_decide_eq_true (by first | (with_reducible assumption) | assumption)) (by have h_ : ((ji75) : Int) < ((y355.length : Int) : Int) := of_decide_eq_true (by first | (with_reducible assumption) | assumption); first | exact h_ | (have e_ := (Kd.R_reads' HO357.out).1; omega) | simpa using h_); obtain rfl := k35_openM hM81; have HP81 := Kd.R_seg HX81.out ((ji75) : Int) (of_decide_eq_true (by first | (with_reducible assumption) | assumption)) (by have h_ : ((ji75) : Int) < ((y355.length : Int) : Int) := of_decide_eq_true (by first | (with_reducible assumption) | assumption); first | exact h_ | (have e_ := (Kd.R_reads' HO357.out).1; omega) | simpa using h_) (seg := [.int .i32 t359]) (j := 1) hcl81 hcc81 (show 2 ≤ 2 from by decide) (x' := (⟨(rd_T35 y355 (ji75)).f0, t359⟩ : S35)) (k35_mkM _ _ _ (⟨(rd_T35 y355 (ji75)).f0, t359⟩ : S35) ) (fun _ hk => hk); have hx81_1 := hcc81 1 _ rfl; (try simp only [show (k35).sz = 2 from rfl, Nat.mul_one, Nat.add_zero] at hx81_1); have hf81_1 := hfr81 1; (try simp only [show (k35).sz = 2 from rfl, Nat.mul_one, Nat.add_zero] at hf81_1); clear hcl81 hcc81 hfr81 hM81) | ((with_reducible refine gate_store (t := 21) (p := 109) rfl ?_); (try (rw [drewN_self w79]; generalize hq_ : World.drewN w79 _ = w79; have n0_ := Aside0.mk (Kd.R_at hq_ HO_8.out); have n1_ := Aside0.mk (Kd.R_at hq_ HO357.out); have n2_ := Aside0.mk (below_at hq_ HB.out); clear hq_ HO_8 HO357 HB; have HO_8 := n0_; have HO357 := n1_; have HB := n2_; clear n0_ n1_ n2_; (try (have HX81 := Aside0.mk (show Kd.R k35 35 w79 w.heap.size (fun _ => True) (.slice (some ⟨go78, 0, none⟩) y355.length co80) y355 from (by (with_reducible repeat (first | apply Kd.R_alloc | apply Kd.R_drewN | apply Kd.R_drew)); exact HO357.out)))); (try (obtain ⟨ce81, hcl81, hM81, hcc81, hfr81⟩ := Kd.R_elem HX81.out z35 ((ji75) : Int) (of_decide_eq_true (by first | (with_reducible assumption) | assumption)) (by have h_ : ((ji75) : Int) < ((y355.length : Int) : Int) := of_decide_eq_true (by first | (with_reducible assumption) | assumption); first | exact h_ | (have e_ := (Kd.R_reads' HO357.out).1; omega) | simpa using h_))); (try (obtain rfl := k35_openM hM81)); (try (have HP81 := Kd.R_seg HX81.out ((ji75) : Int) (of_decide_eq_true (by first | (with_reducible assumption) | assumption)) (by have h_ : ((ji75) : Int) < ((y355.length : Int) : Int) := of_decide_eq_true (by first | (with_reducible assumption) | assumption); first | exact h_ | (have e_ := (Kd.R_reads' HO357.out).1; omega) | simpa using h_) (seg := [.int .i32 t359]) (j := 1) hcl81 hcc81 (show 2 ≤ 2 from by decide) (x' := (⟨(rd_T35 y355 (ji75)).f0, t359⟩ : S35)) (k35_mkM _ _ _ (⟨(rd_T35 y355 (ji75)).f0, t359⟩ : S35) ) (fun _ hk => hk))); (try (have hx81_1 := hcc81 1 _ rfl)); (try (try simp only [show (k35).sz = 2 from rfl, Nat.mul_one, Nat.add_zero] at hx81_1)); (try (have hf81_1 := hfr81 1)); (try (try simp only [show (k35).sz = 2 from rfl, Nat.mul_one, Nat.add_zero] at hf81_1)); (try (clear hcl81 hcc81 hfr81 hM81)))); refine store_event (t := 21) (p := 109) (v := ?vo_w82) (w1 := (w79.setCell ⟨go78, ((ji75) : Int).toNat * 2 + 1, none⟩ (.int .i32 t359))) ?hg ?ho ?hn ?hr ?_; (case ho => rfl); (case hg => rfl); (case hn => rfl); (case hr => first | (go_simp; done) | (go_simp; rfl)); intro w82 hw; have hg : w79.grownBy w82 (some go78) := (by rw [hw]; exact HP81.2); have hp_ : Kd.R k35 35 w82 w.heap.size (fun _ => True) (.slice (some ⟨go78, 0, none⟩) y355.length co80) y360 := (by rw [hw, Ny360.out]; exact HP81.1); clear HP81; have n0_ := Aside0.mk (Kd.R_over' (v := (.slice (some ⟨go78, 0, none⟩) y355.length co80)) (by (with_reducible repeat (first | apply Kd.R_alloc | apply Kd.R_drewN | apply Kd.R_drew)); exact HO_8.out) (Kd.R_typed HO357.out) (by decide) hg); have n1_ := Aside0.mk (hp_); have n2_ := Aside0.mk ((by rw [hw]; exact below_set (HB.out) GB78.out : Below w.heap.size w w82)); clear HO_8; clear HO357; clear HB; have HO_8 := n0_; have HO357 := n1_; have HB := n2_; clear n0_ n1_ n2_; clear hg hw hp_)); try go_wp2_with (first | (go_at_call 44; (with_reducible refine (goboref3_at.calls (rd t346 x11_1) t354 _ A68.out).mono ?_); rintro e w' ⟨rfl, ⟨nd, rfl⟩⟩; (try first | exact ⟨rfl, _, World.drewN_drewN _ _ _⟩ | exact ⟨rfl, _, Eq.trans (World.drewN_drewN _ _ _) (congrArg (World.drewN _) (Nat.add_assoc _ _ _))⟩)) | ((with_reducible refine gate_builtin (b := .append) (xs := #[.tmp 87, .tmp 94]) rfl ?_); at_builtin; refine Kd.R_append k35 (w0 := w) w.heap.size rfl (.tmp 87) (.tmp 94) 22 35 (.agg #[(.int .i32 0), (.int .i32 0)]) 8 rfl Try.underlying22 info35 rfl (by decide) (by omega) u9 x9_1 (⟨t354, 0⟩ : S35) [.int .i32 t354, .int .i32 0] (fun _ => True) (fun _ => False) rfl rfl ?aP (fun _ hk => hk.elim) ?aF ?aO ?aB ?aS ?aL ?_; (case aP => exact k35_mkM _ _ _ (⟨t354, 0⟩ : S35)); (case aB => exact (by repeat (first | (with_reducible first | exact HB.out | apply below_alloc | apply pw_below_drewN | apply below_drew1) | exact HB.out))); (case aF => exact (fun _ _ => trivial)); (case aO => exact (by (with_reducible repeat (first | apply Kd.R_alloc | apply Kd.R_drewN | apply Kd.R_drew)); exact HO_9.out)); (case aS => exact (below_size (by repeat (first | (with_reducible first | exact HB.out | apply below_alloc | apply pw_below_drewN | apply below_drew1) | exact HB.out)))); (case aL => have := LMc69.out; omega); intro v356 w79 ho hb hg hat; rw [← Ny355.out] at ho; have n0_ := Aside0.mk (Kd.R_over' (by (with_reducible repeat (first | apply Kd.R_alloc | apply Kd.R_drewN | apply Kd.R_drew)); exact HO_8.out) (Kd.R_typed (by (with_reducible repeat (first | apply Kd.R_alloc | apply Kd.R_drewN | apply Kd.R_drew)); exact HO_9.out)) (by decide) hg); have n1_ := Aside0.mk (hb); have n2_ := Aside0.mk (ho); clear HO_8; clear HB; clear HO_9; have HO_8 := n0_; have HB := n1_; have HO357 := n2_; clear n0_ n1_ n2_; clear ho hb hg hat; obtain ⟨Ao80, co80, eo80⟩ := Kd.R_slice HO357.out; subst eo80; have p358 : 0 ≤ ((ji71) : Int) := of_decide_eq_true (by first | (with_reducible assumption) | assumption); have q358 : (ji71) < (t346.length : Int) := of_decide_eq_true (by first | (with_reducible assumption) | assumption); obtain ⟨ad358, e358, hx358_0⟩ := Kd.at_int (Kd.R_reads' HO_8.out).2.2 (ji71) p358 q358; obtain rfl : ad349 = ad358 := (by injection e358); replace p358 := eq_true p358; replace q358 := eq_true q358))) | (go_at_call 44; (with_reducible refine (goboref3_at.calls (wrap64 ((rd t346 (ji71)) - 1)) t359 _ A74.out).mono ?_); rintro e w' ⟨rfl, ⟨nd, rfl⟩⟩; (try first | exact ⟨rfl, _, World.drewN_drewN _ _ _⟩ | exact ⟨rfl, _, Eq.trans (World.drewN_drewN _ _ _) (congrArg (World.drewN _) (Nat.add_assoc _ _ _))⟩); have p78 : 0 ≤ ((ji75) : Int) := of_decide_eq_true (by first | (with_reducible assumption) | assumption); have q78 : ((ji75) : Int) < ((y355.length : Int) : Int) := of_decide_eq_true (by first | (with_reducible assumption) | assumption); obtain ⟨go78, co78, eo78, gb78, gl78, cl78, HG78⟩ := Kd.R_form HO357.out (by omega); (first | cases eo78 | (injection eo78 with ea_ en_ ec_; (first | subst ea_ | (injection ea_ with ea_; subst ea_)); subst ec_; clear en_)); have GB78 := Aside0.mk gb78; have GG78 := Aside0.mk HG78; clear gb78 gl78 HG78; obtain ⟨ce78, hcl78, hM78, hcc78, hfr78⟩ := Kd.R_elem HO357.out z35 ((ji75) : Int) p78 q78; obtain rfl := k35_openM hM78; have hx78_0 : w79.cell? ⟨go78, ((ji75) : Int).toNat * 2, none⟩ = some (.int .i32 ((rd_T35 y355 (ji75)).f0)) := hcc78 0 _ rfl; have hx78_1 : w79.cell? ⟨go78, ((ji75) : Int).toNat * 2 + 1, none⟩ = some (.int .i32 ((rd_T35 y355 (ji75)).f1)) := hcc78 1 _ rfl; have hf78_0 : w79.frozen? ⟨go78, ((ji75) : Int).toNat * 2, none⟩ = false := hfr78 0; have hf78_1 : w79.frozen? ⟨go78, ((ji75) : Int).toNat * 2 + 1, none⟩ = false := hfr78 1; clear hcl78 hcc78 hfr78 hM78; replace p78 := eq_true p78; replace q78 := eq_true q78; have HX81 := Aside0.mk (show Kd.R k35 35 w79 w.heap.size (fun _ => True) (.slice (some ⟨go78, 0, none⟩) y355.length co80) y355 from (by (with_reducible repeat (first | apply Kd.R_alloc | apply Kd.R_drewN | apply Kd.R_drew)); exact HO357.out)); obtain ⟨ce81, hcl81, hM81, hcc81, hfr81⟩ := Kd.R_elem HX81.out z35 ((ji75) : Int) (of_decide_eq_true (by first | (with_reducible assumption) | assumption)) (by have h_ : ((ji75) : Int) < ((y355.length : Int) : Int) := of_decide_eq_true (by first | (with_reducible assumption) | assumption); first | exact h_ | (have e_ := (Kd.R_reads' HO357.out).1; omega) | simpa using h_); obtain rfl := k35_openM hM81; have HP81 := Kd.R_seg HX81.out ((ji75) : Int) (of_decide_eq_true (by first | (with_reducible assumption) | assumption)) (by have h_ : ((ji75) : Int) < ((y355.length : Int) : Int) := of_decide_eq_true (by first | (with_reducible assumption) | assumption); first | exact h_ | (have e_ := (Kd.R_reads' HO357.out).1; omega) | simpa using h_) (seg := [.int .i32 t359]) (j := 1) hcl81 hcc81 (show 2 ≤ 2 from by decide) (x' := (⟨(rd_T35 y355 (ji75)).f0, t359⟩ : S35)) (k35_mkM _ _ _ (⟨(rd_T35 y355 (ji75)).f0, t359⟩ : S35) ) (fun _ hk => hk); have hx81_1 := hcc81 1 _ rfl; (try simp only [show (k35).sz = 2 from rfl, Nat.mul_one, Nat.add_zero] at hx81_1); have hf81_1 := hfr81 1; (try simp only [show (k35).sz = 2 from rfl, Nat.mul_one, Nat.add_zero] at hf81_1); clear hcl81 hcc81 hfr81 hM81) | ((with_reducible refine gate_store (t := 21) (p := 109) rfl ?_); (try (rw [drewN_self w79]; generalize hq_ : World.drewN w79 _ = w79; have n0_ := Aside0.mk (Kd.R_at hq_ HO_8.out); have n1_ := Aside0.mk (Kd.R_at hq_ HO357.out); have n2_ := Aside0.mk (below_at hq_ HB.out); clear hq_ HO_8 HO357 HB; have HO_8 := n0_; have HO357 := n1_; have HB := n2_; clear n0_ n1_ n2_; (try (have HX81 := Aside0.mk (show Kd.R k35 35 w79 w.heap.size (fun _ => True) (.slice (some ⟨go78, 0, none⟩) y355.length co80) y355 from (by (with_reducible repeat (first | apply Kd.R_alloc | apply Kd.R_drewN | apply Kd.R_drew)); exact HO357.out)))); (try (obtain ⟨ce81, hcl81, hM81, hcc81, hfr81⟩ := Kd.R_elem HX81.out z35 ((ji75) : Int) (of_decide_eq_true (by first | (with_reducible assumption) | assumption)) (by have h_ : ((ji75) : Int) < ((y355.length : Int) : Int) := of_decide_eq_true (by first | (with_reducible assumption) | assumption); first | exact h_ | (have e_ := (Kd.R_reads' HO357.out).1; omega) | simpa using h_))); (try (obtain rfl := k35_openM hM81)); (try (have HP81 := Kd.R_seg HX81.out ((ji75) : Int) (of_decide_eq_true (by first | (with_reducible assumption) | assumption)) (by have h_ : ((ji75) : Int) < ((y355.length : Int) : Int) := of_decide_eq_true (by first | (with_reducible assumption) | assumption); first | exact h_ | (have e_ := (Kd.R_reads' HO357.out).1; omega) | simpa using h_) (seg := [.int .i32 t359]) (j := 1) hcl81 hcc81 (show 2 ≤ 2 from by decide) (x' := (⟨(rd_T35 y355 (ji75)).f0, t359⟩ : S35)) (k35_mkM _ _ _ (⟨(rd_T35 y355 (ji75)).f0, t359⟩ : S35) ) (fun _ hk => hk))); (try (have hx81_1 := hcc81 1 _ rfl)); (try (try simp only [show (k35).sz = 2 from rfl, Nat.mul_one, Nat.add_zero] at hx81_1)); (try (have hf81_1 := hfr81 1)); (try (try simp only [show (k35).sz = 2 from rfl, Nat.mul_one, Nat.add_zero] at hf81_1)); (try (clear hcl81 hcc81 hfr81 hM81)))); refine store_event (t := 21) (p := 109) (v := ?vo_w82) (w1 := (w79.setCell ⟨go78, ((ji75) : Int).toNat * 2 + 1, none⟩ (.int .i32 t359))) ?hg ?ho ?hn ?hr ?_; (case ho => rfl); (case hg => rfl); (case hn => rfl); (case hr => first | (go_simp; done) | (go_simp; rfl)); intro w82 hw; have hg : w79.grownBy w82 (some go78) := (by rw [hw]; exact HP81.2); have hp_ : Kd.R k35 35 w82 w.heap.size (fun _ => True) (.slice (some ⟨go78, 0, none⟩) y355.length co80) y360 := (by rw [hw, Ny360.out]; exact HP81.1); clear HP81; have n0_ := Aside0.mk (Kd.R_over' (v := (.slice (some ⟨go78, 0, none⟩) y355.length co80)) (by (with_reducible repeat (first | apply Kd.R_alloc | apply Kd.R_drewN | apply Kd.R_drew)); exact HO_8.out) (Kd.R_typed HO357.out) (by decide) hg); have n1_ := Aside0.mk (hp_); have n2_ := Aside0.mk ((by rw [hw]; exact below_set (HB.out) GB78.out : Below w.heap.size w w82)); clear HO_8; clear HO357; clear HB; have HO_8 := n0_; have HO357 := n1_; have HB := n2_; clear n0_ n1_ n2_; clear hg hw hp_)))
                                          go_roundg kj62
                                          case measure => have := HK1.out; have := HJ17.out; have := HJ62.out; omega
                                          case rel => exact ⟨(y360), (true), (ji71), (by first | rfl | (simp; done) | (simp [*]; done)), (by first | rfl | (simp; done) | (simp only [← hji71] <;> (first | rfl | simp)) | (simp [*]; done)), H', ⟨by have := HK1.out; have := HJ17.out; have := HJ62.out; omega⟩, ⟨by (with_reducible repeat (first | apply Kd.R_alloc | apply Kd.R_drewN | apply Kd.R_drew)); exact HO_8.out⟩, ⟨by (with_reducible repeat (first | apply Kd.R_alloc | apply Kd.R_drewN | apply Kd.R_drew)); exact HO357.out⟩, ⟨by repeat (first | (with_reducible first | exact HB.out | apply below_alloc | apply pw_below_drewN | apply below_drew1) | exact HB.out)⟩⟩
                                        · rw [if_neg c77] at H
                                          exact absurd H (by simp)
                                      · rw [if_neg c76] at H
                                        exact absurd H (by simp)
                                    · rw [if_neg c73] at H
                                      exact absurd H (by simp)
                                  · rw [if_neg c72] at H
                                    exact absurd H (by simp)
                                · replace c70 := Bool.eq_false_iff.mpr c70
                                  subst c70
                                  have H1 : (goboref3_pick.l0 kj62 l0 l1 a2 t346 y355 false (wrap64 (x11_1 + 1))) = some r := by rw [if_neg (show ¬ (false = true) by decide)] at H; exact H
                                  clear H
                                  have H := H1
                                  clear H1
                                  have H' := Aside0.mk H
                                  clear H
                                  have p353 : 0 ≤ (x11_1 : Int) := of_decide_eq_true (by first | (with_reducible assumption) | assumption)
                                  have q353 : x11_1 < (t346.length : Int) := of_decide_eq_true (by first | (with_reducible assumption) | assumption)
                                  obtain ⟨ad353, e353, hx353_0⟩ := Kd.at_int (Kd.R_reads' HO_8.out).2.2 x11_1 p353 q353
                                  obtain rfl : ad349 = ad353 := (by injection e353)
                                  replace p353 := eq_true p353
                                  replace q353 := eq_true q353
                                  go_wp2_with (first | (go_at_call 44; (with_reducible refine (goboref3_at.calls (rd t346 x11_1) t354 _ A68.out).mono ?_); rintro e w' ⟨rfl, ⟨nd, rfl⟩⟩; (try first | exact ⟨rfl, _, World.drewN_drewN _ _ _⟩ | exact ⟨rfl, _, Eq.trans (World.drewN_drewN _ _ _) (congrArg (World.drewN _) (Nat.add_assoc _ _ _))⟩)) | ((with_reducible refine gate_builtin (b := .append) (xs := #[.tmp 87, .tmp 94]) rfl ?_); at_builtin; refine Kd.R_append k35 (w0 := w) w.heap.size rfl (.tmp 87) (.tmp 94) 22 35 (.agg #[(.int .i32 0), (.int .i32 0)]) 8 rfl Try.underlying22 info35 rfl (by decide) (by omega) u9 x9_1 (⟨t354, 0⟩ : S35) [.int .i32 t354, .int .i32 0] (fun _ => True) (fun _ => False) rfl rfl ?aP (fun _ hk => hk.elim) ?aF ?aO ?aB ?aS ?aL ?_; (case aP => exact k35_mkM _ _ _ (⟨t354, 0⟩ : S35)); (case aB => exact (by repeat (first | (with_reducible first | exact HB.out | apply below_alloc | apply pw_below_drewN | apply below_drew1) | exact HB.out))); (case aF => exact (fun _ _ => trivial)); (case aO => exact (by (with_reducible repeat (first | apply Kd.R_alloc | apply Kd.R_drewN | apply Kd.R_drew)); exact HO_9.out)); (case aS => exact (below_size (by repeat (first | (with_reducible first | exact HB.out | apply below_alloc | apply pw_below_drewN | apply below_drew1) | exact HB.out)))); (case aL => have := LMc69.out; omega); intro v356 w83 ho hb hg hat; rw [← Ny355.out] at ho; have n0_ := Aside0.mk (Kd.R_over' (by (with_reducible repeat (first | apply Kd.R_alloc | apply Kd.R_drewN | apply Kd.R_drew)); exact HO_8.out) (Kd.R_typed (by (with_reducible repeat (first | apply Kd.R_alloc | apply Kd.R_drewN | apply Kd.R_drew)); exact HO_9.out)) (by decide) hg); have n1_ := Aside0.mk (hb); have n2_ := Aside0.mk (ho); clear HO_8; clear HB; clear HO_9; have HO_8 := n0_; have HB := n1_; have HO357 := n2_; clear n0_ n1_ n2_; clear ho hb hg hat))
                                  repeat (go_quiet (first | (go_at_call 44; (with_reducible refine (goboref3_at.calls (rd t346 x11_1) t354 _ A68.out).mono ?_); rintro e w' ⟨rfl, ⟨nd, rfl⟩⟩; (try first | exact ⟨rfl, _, World.drewN_drewN _ _ _⟩ | exact ⟨rfl, _, Eq.trans (World.drewN_drewN _ _ _) (congrArg (World.drewN _) (Nat.add_assoc _ _ _))⟩)) | ((with_reducible refine gate_builtin (b := .append) (xs := #[.tmp 87, .tmp 94]) rfl ?_); at_builtin; refine Kd.R_append k35 (w0 := w) w.heap.size rfl (.tmp 87) (.tmp 94) 22 35 (.agg #[(.int .i32 0), (.int .i32 0)]) 8 rfl Try.underlying22 info35 rfl (by decide) (by omega) u9 x9_1 (⟨t354, 0⟩ : S35) [.int .i32 t354, .int .i32 0] (fun _ => True) (fun _ => False) rfl rfl ?aP (fun _ hk => hk.elim) ?aF ?aO ?aB ?aS ?aL ?_; (case aP => exact k35_mkM _ _ _ (⟨t354, 0⟩ : S35)); (case aB => exact (by repeat (first | (with_reducible first | exact HB.out | apply below_alloc | apply pw_below_drewN | apply below_drew1) | exact HB.out))); (case aF => exact (fun _ _ => trivial)); (case aO => exact (by (with_reducible repeat (first | apply Kd.R_alloc | apply Kd.R_drewN | apply Kd.R_drew)); exact HO_9.out)); (case aS => exact (below_size (by repeat (first | (with_reducible first | exact HB.out | apply below_alloc | apply pw_below_drewN | apply below_drew1) | exact HB.out)))); (case aL => have := LMc69.out; omega); intro v356 w83 ho hb hg hat; rw [← Ny355.out] at ho; have n0_ := Aside0.mk (Kd.R_over' (by (with_reducible repeat (first | apply Kd.R_alloc | apply Kd.R_drewN | apply Kd.R_drew)); exact HO_8.out) (Kd.R_typed (by (with_reducible repeat (first | apply Kd.R_alloc | apply Kd.R_drewN | apply Kd.R_drew)); exact HO_9.out)) (by decide) hg); have n1_ := Aside0.mk (hb); have n2_ := Aside0.mk (ho); clear HO_8; clear HB; clear HO_9; have HO_8 := n0_; have HB := n1_; have HO357 := n2_; clear n0_ n1_ n2_; clear ho hb hg hat)); try go_wp2_with (first | (go_at_call 44; (with_reducible refine (goboref3_at.calls (rd t346 x11_1) t354 _ A68.out).mono ?_); rintro e w' ⟨rfl, ⟨nd, rfl⟩⟩; (try first | exact ⟨rfl, _, World.drewN_drewN _ _ _⟩ | exact ⟨rfl, _, Eq.trans (World.drewN_drewN _ _ _) (congrArg (World.drewN _) (Nat.add_assoc _ _ _))⟩)) | ((with_reducible refine gate_builtin (b := .append) (xs := #[.tmp 87, .tmp 94]) rfl ?_); at_builtin; refine Kd.R_append k35 (w0 := w) w.heap.size rfl (.tmp 87) (.tmp 94) 22 35 (.agg #[(.int .i32 0), (.int .i32 0)]) 8 rfl Try.underlying22 info35 rfl (by decide) (by omega) u9 x9_1 (⟨t354, 0⟩ : S35) [.int .i32 t354, .int .i32 0] (fun _ => True) (fun _ => False) rfl rfl ?aP (fun _ hk => hk.elim) ?aF ?aO ?aB ?aS ?aL ?_; (case aP => exact k35_mkM _ _ _ (⟨t354, 0⟩ : S35)); (case aB => exact (by repeat (first | (with_reducible first | exact HB.out | apply below_alloc | apply pw_below_drewN | apply below_drew1) | exact HB.out))); (case aF => exact (fun _ _ => trivial)); (case aO => exact (by (with_reducible repeat (first | apply Kd.R_alloc | apply Kd.R_drewN | apply Kd.R_drew)); exact HO_9.out)); (case aS => exact (below_size (by repeat (first | (with_reducible first | exact HB.out | apply below_alloc | apply pw_below_drewN | apply below_drew1) | exact HB.out)))); (case aL => have := LMc69.out; omega); intro v356 w83 ho hb hg hat; rw [← Ny355.out] at ho; have n0_ := Aside0.mk (Kd.R_over' (by (with_reducible repeat (first | apply Kd.R_alloc | apply Kd.R_drewN | apply Kd.R_drew)); exact HO_8.out) (Kd.R_typed (by (with_reducible repeat (first | apply Kd.R_alloc | apply Kd.R_drewN | apply Kd.R_drew)); exact HO_9.out)) (by decide) hg); have n1_ := Aside0.mk (hb); have n2_ := Aside0.mk (ho); clear HO_8; clear HB; clear HO_9; have HO_8 := n0_; have HB := n1_; have HO357 := n2_; clear n0_ n1_ n2_; clear ho hb hg hat)))
                                  go_roundg kj62
                                  case measure => have := HK1.out; have := HJ17.out; have := HJ62.out; omega
                                  case rel => exact ⟨(y355), (false), (wrap64 (x11_1 + 1)), (by first | rfl | (simp; done) | (simp [*]; done)), (by first | rfl | (simp; done) | (simp [*]; done)), H', ⟨by have := HK1.out; have := HJ17.out; have := HJ62.out; omega⟩, ⟨by (with_reducible repeat (first | apply Kd.R_alloc | apply Kd.R_drewN | apply Kd.R_drew)); exact HO_8.out⟩, ⟨by (with_reducible repeat (first | apply Kd.R_alloc | apply Kd.R_drewN | apply Kd.R_drew)); exact HO357.out⟩, ⟨by repeat (first | (with_reducible first | exact HB.out | apply below_alloc | apply pw_below_drewN | apply below_drew1) | exact HB.out)⟩⟩
                              · rw [if_neg c69] at H
                                exact absurd H (by simp)
                            · rw [if_neg c67] at H
                              exact absurd H (by simp)
                          · rw [if_neg c66] at H
                            exact absurd H (by simp)
                        · replace c65 := Bool.eq_false_iff.mpr c65
                          subst c65
                          have H1 : (if x14_17 = true then (if 0 ≤ (wrap64 (x11_1 + 1)) then (if (wrap64 (x11_1 + 1)) < (t346.length : Int) then ((goboref3_at.f (wrap64 ((rd t346 (wrap64 (x11_1 + 1))) - 1))).bind fun t362 => (if 0 ≤ (wrap64 ((x9_1.length : Int) - 1)) then (if (wrap64 ((x9_1.length : Int) - 1)) < (x9_1.length : Int) then (goboref3_pick.l0 kj62 l0 l1 a2 t346 (x9_1.set ((wrap64 ((x9_1.length : Int) - 1)) : Int).toNat (⟨(rd_T35 x9_1 (wrap64 ((x9_1.length : Int) - 1))).f0, t362⟩ : S35)) x14_17 (wrap64 (x11_1 + 1))) else (none)) else (none))) else (none)) else (none)) else (goboref3_pick.l0 kj62 l0 l1 a2 t346 x9_1 x14_17 (wrap64 (x11_1 + 1)))) = some r := by rw [if_neg (show ¬ (false = true) by decide)] at H; exact H
                          clear H
                          have H := H1
                          clear H1
                          by_cases c84 : x14_17 = true
                          · subst c84
                            have H1 : (if 0 ≤ (wrap64 (x11_1 + 1)) then (if (wrap64 (x11_1 + 1)) < (t346.length : Int) then ((goboref3_at.f (wrap64 ((rd t346 (wrap64 (x11_1 + 1))) - 1))).bind fun t362 => (if 0 ≤ (wrap64 ((x9_1.length : Int) - 1)) then (if (wrap64 ((x9_1.length : Int) - 1)) < (x9_1.length : Int) then (goboref3_pick.l0 kj62 l0 l1 a2 t346 (x9_1.set ((wrap64 ((x9_1.length : Int) - 1)) : Int).toNat (⟨(rd_T35 x9_1 (wrap64 ((x9_1.length : Int) - 1))).f0, t362⟩ : S35)) true (wrap64 (x11_1 + 1))) else (none)) else (none))) else (none)) else (none)) = some r := by rw [if_pos rfl] at H; exact H
                            clear H
                            have H := H1
                            clear H1
                            obtain ⟨ji85, hji85⟩ : ∃ j_ : Int, (wrap64 (x11_1 + 1)) = j_ := ⟨_, rfl⟩
                            replace H : (if 0 ≤ (ji85) then (if (ji85) < (t346.length : Int) then ((goboref3_at.f (wrap64 ((rd t346 (ji85)) - 1))).bind fun t362 => (if 0 ≤ (wrap64 ((x9_1.length : Int) - 1)) then (if (wrap64 ((x9_1.length : Int) - 1)) < (x9_1.length : Int) then (goboref3_pick.l0 kj62 l0 l1 a2 t346 (x9_1.set ((wrap64 ((x9_1.length : Int) - 1)) : Int).toNat (⟨(rd_T35 x9_1 (wrap64 ((x9_1.length : Int) - 1))).f0, t362⟩ : S35)) true ji85) else (none)) else (none))) else (none)) else (none)) = some r := by first | (rw [hji85] at H; exact H) | (simp only [hji85] at H ⊢; exact H)
                            (try rw [hji85] at c13b0)
                            have hji85w : (IntKind.i64.wrap (x11_1 + 1)) = ji85 := (i64_w _).trans hji85
                            by_cases c86 : 0 ≤ (ji85)
                            · rw [if_pos c86] at H
                              have c86b0 : decide (0 ≤ (ji85)) = true := decide_eq_true c86
                              clear c86
                              by_cases c87 : (ji85) < (t346.length : Int)
                              · rw [if_pos c87] at H
                                have c87b0 : decide ((ji85) < (t346.length : Int)) = true := decide_eq_true c87
                                clear c87
                                replace H := Option.bind_eq_some_iff.mp H
                                obtain ⟨t362, A880, H⟩ := H
                                replace H : (if 0 ≤ (wrap64 ((x9_1.length : Int) - 1)) then (if (wrap64 ((x9_1.length : Int) - 1)) < (x9_1.length : Int) then (goboref3_pick.l0 kj62 l0 l1 a2 t346 (x9_1.set ((wrap64 ((x9_1.length : Int) - 1)) : Int).toNat (⟨(rd_T35 x9_1 (wrap64 ((x9_1.length : Int) - 1))).f0, t362⟩ : S35)) true ji85) else (none)) else (none)) = some r := H
                                have A88 := Aside0.mk A880
                                clear A880
                                obtain ⟨ji89, hji89⟩ : ∃ j_ : Int, (wrap64 ((x9_1.length : Int) - 1)) = j_ := ⟨_, rfl⟩
                                replace H : (if 0 ≤ (ji89) then (if (ji89) < (x9_1.length : Int) then (goboref3_pick.l0 kj62 l0 l1 a2 t346 (x9_1.set ((ji89) : Int).toNat (⟨(rd_T35 x9_1 (ji89)).f0, t362⟩ : S35)) true ji85) else (none)) else (none)) = some r := by first | (rw [hji89] at H; exact H) | (simp only [hji89] at H ⊢; exact H)
                                (try rw [hji89] at A88)
                                have hji89w : (IntKind.i64.wrap ((x9_1.length : Int) - 1)) = ji89 := (i64_w _).trans hji89
                                by_cases c90 : 0 ≤ (ji89)
                                · rw [if_pos c90] at H
                                  have c90b0 : decide (0 ≤ (ji89)) = true := decide_eq_true c90
                                  clear c90
                                  by_cases c91 : (ji89) < (x9_1.length : Int)
                                  · rw [if_pos c91] at H
                                    have c91b0 : decide ((ji89) < (x9_1.length : Int)) = true := decide_eq_true c91
                                    clear c91
                                    obtain ⟨y363, hy363⟩ : ∃ y_ : List (S35), y_ = (x9_1.set ((ji89) : Int).toNat (⟨(rd_T35 x9_1 (ji89)).f0, t362⟩ : S35)) := ⟨_, rfl⟩
                                    replace H : (goboref3_pick.l0 kj62 l0 l1 a2 t346 y363 true ji85) = some r := by first | (rw [hy363]; with_reducible exact H) | (have H2_ := (Option.bind_some _ _).symm.trans H; rw [hy363]; with_reducible exact H2_) | (have H2_ := (Option.bind_some _ _).symm.trans H; with_reducible exact H2_) | with_reducible exact H | (rw [hy363]; exact H) | exact H
                                    have Ny363 := Aside0.mk hy363
                                    clear hy363
                                    have H' := Aside0.mk H
                                    clear H
                                    obtain ⟨Ao93, co93, eo93⟩ := Kd.R_slice HO_9.out
                                    subst eo93
                                    have p361 : 0 ≤ ((ji85) : Int) := of_decide_eq_true (by first | (with_reducible assumption) | assumption)
                                    have q361 : (ji85) < (t346.length : Int) := of_decide_eq_true (by first | (with_reducible assumption) | assumption)
                                    obtain ⟨ad361, e361, hx361_0⟩ := Kd.at_int (Kd.R_reads' HO_8.out).2.2 (ji85) p361 q361
                                    obtain rfl : ad349 = ad361 := (by injection e361)
                                    replace p361 := eq_true p361
                                    replace q361 := eq_true q361
                                    go_wp2_with (first | (go_at_call 44; (with_reducible refine (goboref3_at.calls (wrap64 ((rd t346 (ji85)) - 1)) t362 _ A88.out).mono ?_); rintro e w' ⟨rfl, ⟨nd, rfl⟩⟩; (try first | exact ⟨rfl, _, World.drewN_drewN _ _ _⟩ | exact ⟨rfl, _, Eq.trans (World.drewN_drewN _ _ _) (congrArg (World.drewN _) (Nat.add_assoc _ _ _))⟩); have p92 : 0 ≤ ((ji89) : Int) := of_decide_eq_true (by first | (with_reducible assumption) | assumption); have q92 : ((ji89) : Int) < ((x9_1.length : Int) : Int) := of_decide_eq_true (by first | (with_reducible assumption) | assumption); obtain ⟨go92, co92, eo92, gb92, gl92, cl92, HG92⟩ := Kd.R_form HO_9.out (by omega); (first | cases eo92 | (injection eo92 with ea_ en_ ec_; (first | subst ea_ | (injection ea_ with ea_; subst ea_)); subst ec_; clear en_)); have GB92 := Aside0.mk gb92; have GG92 := Aside0.mk HG92; clear gb92 gl92 HG92; obtain ⟨ce92, hcl92, hM92, hcc92, hfr92⟩ := Kd.R_elem HO_9.out z35 ((ji89) : Int) p92 q92; obtain rfl := k35_openM hM92; have hx92_0 : wc.cell? ⟨go92, ((ji89) : Int).toNat * 2, none⟩ = some (.int .i32 ((rd_T35 x9_1 (ji89)).f0)) := hcc92 0 _ rfl; have hx92_1 : wc.cell? ⟨go92, ((ji89) : Int).toNat * 2 + 1, none⟩ = some (.int .i32 ((rd_T35 x9_1 (ji89)).f1)) := hcc92 1 _ rfl; have hf92_0 : wc.frozen? ⟨go92, ((ji89) : Int).toNat * 2, none⟩ = false := hfr92 0; have hf92_1 : wc.frozen? ⟨go92, ((ji89) : Int).toNat * 2 + 1, none⟩ = false := hfr92 1; clear hcl92 hcc92 hfr92 hM92; replace p92 := eq_true p92; replace q92 := eq_true q92; have HX94 := Aside0.mk (show Kd.R k35 35 wc w.heap.size (fun _ => True) (.slice (some ⟨go92, 0, none⟩) x9_1.length co93) x9_1 from (by (with_reducible repeat (first | apply Kd.R_alloc | apply Kd.R_drewN | apply Kd.R_drew)); exact HO_9.out)); obtain ⟨ce94, hcl94, hM94, hcc94, hfr94⟩ := Kd.R_elem HX94.out z35 ((ji89) : Int) (of_decide_eq_true (by first | (with_reducible assumption) | assumption)) (by have h_ : ((ji89) : Int) < ((x9_1.length : Int) : Int) := of_decide_eq_true (by first | (with_reducible assumption) | assumption); first | exact h_ | (have e_ := (Kd.R_reads' HO_9.out).1; omega) | simpa using h_); obtain rfl := k35_openM hM94; have HP94 := Kd.R_seg HX94.out ((ji89) : Int) (of_decide_eq_true (by first | (with_reducible assumption) | assumption)) (by have h_ : ((ji89) : Int) < ((x9_1.length : Int) : Int) := of_decide_eq_true (by first | (with_reducible assumption) | assumption); first | exact h_ | (have e_ := (Kd.R_reads' HO_9.out).1; omega) | simpa using h_) (seg := [.int .i32 t362]) (j := 1) hcl94 hcc94 (show 2 ≤ 2 from by decide) (x' := (⟨(rd_T35 x9_1 (ji89)).f0, t362⟩ : S35)) (k35_mkM _ _ _ (⟨(rd_T35 x9_1 (ji89)).f0, t362⟩ : S35) ) (fun _ hk => hk); have hx94_1 := hcc94 1 _ rfl; (try simp only [show (k35).sz = 2 from rfl, Nat.mul_one, Nat.add_zero] at hx94_1); have hf94_1 := hfr94 1; (try simp only [show (k35).sz = 2 from rfl, Nat.mul_one, Nat.add_zero] at hf94_1); clear hcl94 hcc94 hfr94 hM94) | ((with_reducible refine gate_store (t := 21) (p := 109) rfl ?_); (try (rw [drewN_self wc]; generalize hq_ : World.drewN wc _ = wc; have n0_ := Aside0.mk (Kd.R_at hq_ HO_8.out); have n1_ := Aside0.mk (Kd.R_at hq_ HO_9.out); have n2_ := Aside0.mk (below_at hq_ HB.out); clear hq_ HO_8 HO_9 HB; have HO_8 := n0_; have HO_9 := n1_; have HB := n2_; clear n0_ n1_ n2_; (try (have HX94 := Aside0.mk (show Kd.R k35 35 wc w.heap.size (fun _ => True) (.slice (some ⟨go92, 0, none⟩) x9_1.length co93) x9_1 from (by (with_reducible repeat (first | apply Kd.R_alloc | apply Kd.R_drewN | apply Kd.R_drew)); exact HO_9.out)))); (try (obtain ⟨ce94, hcl94, hM94, hcc94, hfr94⟩ := Kd.R_elem HX94.out z35 ((ji89) : Int) (of_decide_eq_true (by first | (with_reducible assumption) | assumption)) (by have h_ : ((ji89) : Int) < ((x9_1.length : Int) : Int) := of_decide_eq_true (by first | (with_reducible assumption) | assumption); first | exact h_ | (have e_ := (Kd.R_reads' HO_9.out).1; omega) | simpa using h_))); (try (obtain rfl := k35_openM hM94)); (try (have HP94 := Kd.R_seg HX94.out ((ji89) : Int) (of_decide_eq_true (by first | (with_reducible assumption) | assumption)) (by have h_ : ((ji89) : Int) < ((x9_1.length : Int) : Int) := of_decide_eq_true (by first | (with_reducible assumption) | assumption); first | exact h_ | (have e_ := (Kd.R_reads' HO_9.out).1; omega) | simpa using h_) (seg := [.int .i32 t362]) (j := 1) hcl94 hcc94 (show 2 ≤ 2 from by decide) (x' := (⟨(rd_T35 x9_1 (ji89)).f0, t362⟩ : S35)) (k35_mkM _ _ _ (⟨(rd_T35 x9_1 (ji89)).f0, t362⟩ : S35) ) (fun _ hk => hk))); (try (have hx94_1 := hcc94 1 _ rfl)); (try (try simp only [show (k35).sz = 2 from rfl, Nat.mul_one, Nat.add_zero] at hx94_1)); (try (have hf94_1 := hfr94 1)); (try (try simp only [show (k35).sz = 2 from rfl, Nat.mul_one, Nat.add_zero] at hf94_1)); (try (clear hcl94 hcc94 hfr94 hM94)))); refine store_event (t := 21) (p := 109) (v := ?vo_w95) (w1 := (wc.setCell ⟨go92, ((ji89) : Int).toNat * 2 + 1, none⟩ (.int .i32 t362))) ?hg ?ho ?hn ?hr ?_; (case ho => rfl); (case hg => rfl); (case hn => rfl); (case hr => first | (go_simp; done) | (go_simp; rfl)); intro w95 hw; have hg : wc.grownBy w95 (some go92) := (by rw [hw]; exact HP94.2); have hp_ : Kd.R k35 35 w95 w.heap.size (fun _ => True) (.slice (some ⟨go92, 0, none⟩) x9_1.length co93) y363 := (by rw [hw, Ny363.out]; exact HP94.1); clear HP94; have n0_ := Aside0.mk (Kd.R_over' (v := (.slice (some ⟨go92, 0, none⟩) x9_1.length co93)) (by (with_reducible repeat (first | apply Kd.R_alloc | apply Kd.R_drewN | apply Kd.R_drew)); exact HO_8.out) (Kd.R_typed HO_9.out) (by decide) hg); have n1_ := Aside0.mk (hp_); have n2_ := Aside0.mk ((by rw [hw]; exact below_set (HB.out) GB92.out : Below w.heap.size w w95)); clear HO_8; clear HO_9; clear HB; have HO_8 := n0_; have HO_9 := n1_; have HB := n2_; clear n0_ n1_ n2_; clear hg hw hp_))
                                    repeat (go_quiet (first | (go_at_call 44; (with_reducible refine (goboref3_at.calls (wrap64 ((rd t346 (ji85)) - 1)) t362 _ A88.out).mono ?_); rintro e w' ⟨rfl, ⟨nd, rfl⟩⟩; (try first | exact ⟨rfl, _, World.drewN_drewN _ _ _⟩ | exact ⟨rfl, _, Eq.trans (World.drewN_drewN _ _ _) (congrArg (World.drewN _) (Nat.add_assoc _ _ _))⟩); have p92 : 0 ≤ ((ji89) : Int) := of_decide_eq_true (by first | (with_reducible assumption) | assumption); have q92 : ((ji89) : Int) < ((x9_1.length : Int) : Int) := of_decide_eq_true (by first | (with_reducible assumption) | assumption); obtain ⟨go92, co92, eo92, gb92, gl92, cl92, HG92⟩ := Kd.R_form HO_9.out (by omega); (first | cases eo92 | (injection eo92 with ea_ en_ ec_; (first | subst ea_ | (injection ea_ with ea_; subst ea_)); subst ec_; clear en_)); have GB92 := Aside0.mk gb92; have GG92 := Aside0.mk HG92; clear gb92 gl92 HG92; obtain ⟨ce92, hcl92, hM92, hcc92, hfr92⟩ := Kd.R_elem HO_9.out z35 ((ji89) : Int) p92 q92; obtain rfl := k35_openM hM92; have hx92_0 : wc.cell? ⟨go92, ((ji89) : Int).toNat * 2, none⟩ = some (.int .i32 ((rd_T35 x9_1 (ji89)).f0)) := hcc92 0 _ rfl; have hx92_1 : wc.cell? ⟨go92, ((ji89) : Int).toNat * 2 + 1, none⟩ = some (.int .i32 ((rd_T35 x9_1 (ji89)).f1)) := hcc92 1 _ rfl; have hf92_0 : wc.frozen? ⟨go92, ((ji89) : Int).toNat * 2, none⟩ = false := hfr92 0; have hf92_1 : wc.frozen? ⟨go92, ((ji89) : Int).toNat * 2 + 1, none⟩ = false := hfr92 1; clear hcl92 hcc92 hfr92 hM92; replace p92 := eq_true p92; replace q92 := eq_true q92; have HX94 := Aside0.mk (show Kd.R k35 35 wc w.heap.size (fun _ => True) (.slice (some ⟨go92, 0, none⟩) x9_1.length co93) x9_1 from (by (with_reducible repeat (first | apply Kd.R_alloc | apply Kd.R_drewN | apply Kd.R_drew)); exact HO_9.out)); obtain ⟨ce94, hcl94, hM94, hcc94, hfr94⟩ := Kd.R_elem HX94.out z35 ((ji89) : Int) (of_decide_eq_true (by first | (with_reducible assumption) | assumption)) (by have h_ : ((ji89) : Int) < ((x9_1.length : Int) : Int) := of_decide_eq_true (by first | (with_reducible assumption) | assumption); first | exact h_ | (have e_ := (Kd.R_reads' HO_9.out).1; omega) | simpa using h_); obtain rfl := k35_openM hM94; have HP94 := Kd.R_seg HX94.out ((ji89) : Int) (of_decide_eq_true (by first | (with_reducible assumption) | assumption)) (by have h_ : ((ji89) : Int) < ((x9_1.length : Int) : Int) := of_decide_eq_true (by first | (with_reducible assumption) | assumption); first | exact h_ | (have e_ := (Kd.R_reads' HO_9.out).1; omega) | simpa using h_) (seg := [.int .i32 t362]) (j := 1) hcl94 hcc94 (show 2 ≤ 2 from by decide) (x' := (⟨(rd_T35 x9_1 (ji89)).f0, t362⟩ : S35)) (k35_mkM _ _ _ (⟨(rd_T35 x9_1 (ji89)).f0, t362⟩ : S35) ) (fun _ hk => hk); have hx94_1 := hcc94 1 _ rfl; (try simp only [show (k35).sz = 2 from rfl, Nat.mul_one, Nat.add_zero] at hx94_1); have hf94_1 := hfr94 1; (try simp only [show (k35).sz = 2 from rfl, Nat.mul_one, Nat.add_zero] at hf94_1); clear hcl94 hcc94 hfr94 hM94) | ((with_reducible refine gate_store (t := 21) (p := 109) rfl ?_); (try (rw [drewN_self wc]; generalize hq_ : World.drewN wc _ = wc; have n0_ := Aside0.mk (Kd.R_at hq_ HO_8.out); have n1_ := Aside0.mk (Kd.R_at hq_ HO_9.out); have n2_ := Aside0.mk (below_at hq_ HB.out); clear hq_ HO_8 HO_9 HB; have HO_8 := n0_; have HO_9 := n1_; have HB := n2_; clear n0_ n1_ n2_; (try (have HX94 := Aside0.mk (show Kd.R k35 35 wc w.heap.size (fun _ => True) (.slice (some ⟨go92, 0, none⟩) x9_1.length co93) x9_1 from (by (with_reducible repeat (first | apply Kd.R_alloc | apply Kd.R_drewN | apply Kd.R_drew)); exact HO_9.out)))); (try (obtain ⟨ce94, hcl94, hM94, hcc94, hfr94⟩ := Kd.R_elem HX94.out z35 ((ji89) : Int) (of_decide_eq_true (by first | (with_reducible assumption) | assumption)) (by have h_ : ((ji89) : Int) < ((x9_1.length : Int) : Int) := of_decide_eq_true (by first | (with_reducible assumption) | assumption); first | exact h_ | (have e_ := (Kd.R_reads' HO_9.out).1; omega) | simpa using h_))); (try (obtain rfl := k35_openM hM94)); (try (have HP94 := Kd.R_seg HX94.out ((ji89) : Int) (of_decide_eq_true (by first | (with_reducible assumption) | assumption)) (by have h_ : ((ji89) : Int) < ((x9_1.length : Int) : Int) := of_decide_eq_true (by first | (with_reducible assumption) | assumption); first | exact h_ | (have e_ := (Kd.R_reads' HO_9.out).1; omega) | simpa using h_) (seg := [.int .i32 t362]) (j := 1) hcl94 hcc94 (show 2 ≤ 2 from by decide) (x' := (⟨(rd_T35 x9_1 (ji89)).f0, t362⟩ : S35)) (k35_mkM _ _ _ (⟨(rd_T35 x9_1 (ji89)).f0, t362⟩ : S35) ) (fun _ hk => hk))); (try (have hx94_1 := hcc94 1 _ rfl)); (try (try simp only [show (k35).sz = 2 from rfl, Nat.mul_one, Nat.add_zero] at hx94_1)); (try (have hf94_1 := hfr94 1)); (try (try simp only [show (k35).sz = 2 from rfl, Nat.mul_one, Nat.add_zero] at hf94_1)); (try (clear hcl94 hcc94 hfr94 hM94)))); refine store_event (t := 21) (p := 109) (v := ?vo_w95) (w1 := (wc.setCell ⟨go92, ((ji89) : Int).toNat * 2 + 1, none⟩ (.int .i32 t362))) ?hg ?ho ?hn ?hr ?_; (case ho => rfl); (case hg => rfl); (case hn => rfl); (case hr => first | (go_simp; done) | (go_simp; rfl)); intro w95 hw; have hg : wc.grownBy w95 (some go92) := (by rw [hw]; exact HP94.2); have hp_ : Kd.R k35 35 w95 w.heap.size (fun _ => True) (.slice (some ⟨go92, 0, none⟩) x9_1.length co93) y363 := (by rw [hw, Ny363.out]; exact HP94.1); clear HP94; have n0_ := Aside0.mk (Kd.R_over' (v := (.slice (some ⟨go92, 0, none⟩) x9_1.length co93)) (by (with_reducible repeat (first | apply Kd.R_alloc | apply Kd.R_drewN | apply Kd.R_drew)); exact HO_8.out) (Kd.R_typed HO_9.out) (by decide) hg); have n1_ := Aside0.mk (hp_); have n2_ := Aside0.mk ((by rw [hw]; exact below_set (HB.out) GB92.out : Below w.heap.size w w95)); clear HO_8; clear HO_9; clear HB; have HO_8 := n0_; have HO_9 := n1_; have HB := n2_; clear n0_ n1_ n2_; clear hg hw hp_)); try go_wp2_with (first | (go_at_call 44; (with_reducible refine (goboref3_at.calls (wrap64 ((rd t346 (ji85)) - 1)) t362 _ A88.out).mono ?_); rintro e w' ⟨rfl, ⟨nd, rfl⟩⟩; (try first | exact ⟨rfl, _, World.drewN_drewN _ _ _⟩ | exact ⟨rfl, _, Eq.trans (World.drewN_drewN _ _ _) (congrArg (World.drewN _) (Nat.add_assoc _ _ _))⟩); have p92 : 0 ≤ ((ji89) : Int) := of_decide_eq_true (by first | (with_reducible assumption) | assumption); have q92 : ((ji89) : Int) < ((x9_1.length : Int) : Int) := of_decide_eq_true (by first | (with_reducible assumption) | assumption); obtain ⟨go92, co92, eo92, gb92, gl92, cl92, HG92⟩ := Kd.R_form HO_9.out (by omega); (first | cases eo92 | (injection eo92 with ea_ en_ ec_; (first | subst ea_ | (injection ea_ with ea_; subst ea_)); subst ec_; clear en_)); have GB92 := Aside0.mk gb92; have GG92 := Aside0.mk HG92; clear gb92 gl92 HG92; obtain ⟨ce92, hcl92, hM92, hcc92, hfr92⟩ := Kd.R_elem HO_9.out z35 ((ji89) : Int) p92 q92; obtain rfl := k35_openM hM92; have hx92_0 : wc.cell? ⟨go92, ((ji89) : Int).toNat * 2, none⟩ = some (.int .i32 ((rd_T35 x9_1 (ji89)).f0)) := hcc92 0 _ rfl; have hx92_1 : wc.cell? ⟨go92, ((ji89) : Int).toNat * 2 + 1, none⟩ = some (.int .i32 ((rd_T35 x9_1 (ji89)).f1)) := hcc92 1 _ rfl; have hf92_0 : wc.frozen? ⟨go92, ((ji89) : Int).toNat * 2, none⟩ = false := hfr92 0; have hf92_1 : wc.frozen? ⟨go92, ((ji89) : Int).toNat * 2 + 1, none⟩ = false := hfr92 1; clear hcl92 hcc92 hfr92 hM92; replace p92 := eq_true p92; replace q92 := eq_true q92; have HX94 := Aside0.mk (show Kd.R k35 35 wc w.heap.size (fun _ => True) (.slice (some ⟨go92, 0, none⟩) x9_1.length co93) x9_1 from (by (with_reducible repeat (first | apply Kd.R_alloc | apply Kd.R_drewN | apply Kd.R_drew)); exact HO_9.out)); obtain ⟨ce94, hcl94, hM94, hcc94, hfr94⟩ := Kd.R_elem HX94.out z35 ((ji89) : Int) (of_decide_eq_true (by first | (with_reducible assumption) | assumption)) (by have h_ : ((ji89) : Int) < ((x9_1.length : Int) : Int) := of_decide_eq_true (by first | (with_reducible assumption) | assumption); first | exact h_ | (have e_ := (Kd.R_reads' HO_9.out).1; omega) | simpa using h_); obtain rfl := k35_openM hM94; have HP94 := Kd.R_seg HX94.out ((ji89) : Int) (of_decide_eq_true (by first | (with_reducible assumption) | assumption)) (by have h_ : ((ji89) : Int) < ((x9_1.length : Int) : Int) := of_decide_eq_true (by first | (with_reducible assumption) | assumption); first | exact h_ | (have e_ := (Kd.R_reads' HO_9.out).1; omega) | simpa using h_) (seg := [.int .i32 t362]) (j := 1) hcl94 hcc94 (show 2 ≤ 2 from by decide) (x' := (⟨(rd_T35 x9_1 (ji89)).f0, t362⟩ : S35)) (k35_mkM _ _ _ (⟨(rd_T35 x9_1 (ji89)).f0, t362⟩ : S35) ) (fun _ hk => hk); have hx94_1 := hcc94 1 _ rfl; (try simp only [show (k35).sz = 2 from rfl, Nat.mul_one, Nat.add_zero] at hx94_1); have hf94_1 := hfr94 1; (try simp only [show (k35).sz = 2 from rfl, Nat.mul_one, Nat.add_zero] at hf94_1); clear hcl94 hcc94 hfr94 hM94) | ((with_reducible refine gate_store (t := 21) (p := 109) rfl ?_); (try (rw [drewN_self wc]; generalize hq_ : World.drewN wc _ = wc; have n0_ := Aside0.mk (Kd.R_at hq_ HO_8.out); have n1_ := Aside0.mk (Kd.R_at hq_ HO_9.out); have n2_ := Aside0.mk (below_at hq_ HB.out); clear hq_ HO_8 HO_9 HB; have HO_8 := n0_; have HO_9 := n1_; have HB := n2_; clear n0_ n1_ n2_; (try (have HX94 := Aside0.mk (show Kd.R k35 35 wc w.heap.size (fun _ => True) (.slice (some ⟨go92, 0, none⟩) x9_1.length co93) x9_1 from (by (with_reducible repeat (first | apply Kd.R_alloc | apply Kd.R_drewN | apply Kd.R_drew)); exact HO_9.out)))); (try (obtain ⟨ce94, hcl94, hM94, hcc94, hfr94⟩ := Kd.R_elem HX94.out z35 ((ji89) : Int) (of_decide_eq_true (by first | (with_reducible assumption) | assumption)) (by have h_ : ((ji89) : Int) < ((x9_1.length : Int) : Int) := of_decide_eq_true (by first | (with_reducible assumption) | assumption); first | exact h_ | (have e_ := (Kd.R_reads' HO_9.out).1; omega) | simpa using h_))); (try (obtain rfl := k35_openM hM94)); (try (have HP94 := Kd.R_seg HX94.out ((ji89) : Int) (of_decide_eq_true (by first | (with_reducible assumption) | assumption)) (by have h_ : ((ji89) : Int) < ((x9_1.length : Int) : Int) := of_decide_eq_true (by first | (with_reducible assumption) | assumption); first | exact h_ | (have e_ := (Kd.R_reads' HO_9.out).1; omega) | simpa using h_) (seg := [.int .i32 t362]) (j := 1) hcl94 hcc94 (show 2 ≤ 2 from by decide) (x' := (⟨(rd_T35 x9_1 (ji89)).f0, t362⟩ : S35)) (k35_mkM _ _ _ (⟨(rd_T35 x9_1 (ji89)).f0, t362⟩ : S35) ) (fun _ hk => hk))); (try (have hx94_1 := hcc94 1 _ rfl)); (try (try simp only [show (k35).sz = 2 from rfl, Nat.mul_one, Nat.add_zero] at hx94_1)); (try (have hf94_1 := hfr94 1)); (try (try simp only [show (k35).sz = 2 from rfl, Nat.mul_one, Nat.add_zero] at hf94_1)); (try (clear hcl94 hcc94 hfr94 hM94)))); refine store_event (t := 21) (p := 109) (v := ?vo_w95) (w1 := (wc.setCell ⟨go92, ((ji89) : Int).toNat * 2 + 1, none⟩ (.int .i32 t362))) ?hg ?ho ?hn ?hr ?_; (case ho => rfl); (case hg => rfl); (case hn => rfl); (case hr => first | (go_simp; done) | (go_simp; rfl)); intro w95 hw; have hg : wc.grownBy w95 (some go92) := (by rw [hw]; exact HP94.2); have hp_ : Kd.R k35 35 w95 w.heap.size (fun _ => True) (.slice (some ⟨go92, 0, none⟩) x9_1.length co93) y363 := (by rw [hw, Ny363.out]; exact HP94.1); clear HP94; have n0_ := Aside0.mk (Kd.R_over' (v := (.slice (some ⟨go92, 0, none⟩) x9_1.length co93)) (by (with_reducible repeat (first | apply Kd.R_alloc | apply Kd.R_drewN | apply Kd.R_drew)); exact HO_8.out) (Kd.R_typed HO_9.out) (by decide) hg); have n1_ := Aside0.mk (hp_); have n2_ := Aside0.mk ((by rw [hw]; exact below_set (HB.out) GB92.out : Below w.heap.size w w95)); clear HO_8; clear HO_9; clear HB; have HO_8 := n0_; have HO_9 := n1_; have HB := n2_; clear n0_ n1_ n2_; clear hg hw hp_)))
                                    go_roundg kj62
                                    case measure => have := HK1.out; have := HJ17.out; have := HJ62.out; omega
                                    case rel => exact ⟨(y363), (true), (ji85), (by first | rfl | (simp; done) | (simp [*]; done)), (by first | rfl | (simp; done) | (simp only [← hji85] <;> (first | rfl | simp)) | (simp [*]; done)), H', ⟨by have := HK1.out; have := HJ17.out; have := HJ62.out; omega⟩, ⟨by (with_reducible repeat (first | apply Kd.R_alloc | apply Kd.R_drewN | apply Kd.R_drew)); exact HO_8.out⟩, ⟨by (with_reducible repeat (first | apply Kd.R_alloc | apply Kd.R_drewN | apply Kd.R_drew)); exact HO_9.out⟩, ⟨by repeat (first | (with_reducible first | exact HB.out | apply below_alloc | apply pw_below_drewN | apply below_drew1) | exact HB.out)⟩⟩
                                  · rw [if_neg c91] at H
                                    exact absurd H (by simp)
                                · rw [if_neg c90] at H
                                  exact absurd H (by simp)
                              · rw [if_neg c87] at H
                                exact absurd H (by simp)
                            · rw [if_neg c86] at H
                              exact absurd H (by simp)
                          · replace c84 := Bool.eq_false_iff.mpr c84
                            subst c84
                            have H1 : (goboref3_pick.l0 kj62 l0 l1 a2 t346 x9_1 false (wrap64 (x11_1 + 1))) = some r := by rw [if_neg (show ¬ (false = true) by decide)] at H; exact H
                            clear H
                            have H := H1
                            clear H1
                            have H' := Aside0.mk H
                            clear H
                            go_wp2
                            repeat (go_quiet (fail); try go_wp2)
                            go_roundg kj62
                            case measure => have := HK1.out; have := HJ17.out; have := HJ62.out; omega
                            case rel => exact ⟨(x9_1), (false), (wrap64 (x11_1 + 1)), (by first | rfl | (simp; done) | (simp [*]; done)), (by first | rfl | (simp; done) | (simp [*]; done)), H', ⟨by have := HK1.out; have := HJ17.out; have := HJ62.out; omega⟩, ⟨by (with_reducible repeat (first | apply Kd.R_alloc | apply Kd.R_drewN | apply Kd.R_drew)); exact HO_8.out⟩, ⟨by (with_reducible repeat (first | apply Kd.R_alloc | apply Kd.R_drewN | apply Kd.R_drew)); exact HO_9.out⟩, ⟨by repeat (first | (with_reducible first | exact HB.out | apply below_alloc | apply pw_below_drewN | apply below_drew1) | exact HB.out)⟩⟩
              · rw [if_neg c15] at H
                exact absurd H (by simp)
            · rw [if_neg c14] at H
              exact absurd H (by simp)
          · rw [if_neg c13] at H
            have c13b0 : decide ((wrap64 (x11_1 + 1)) < (t346.length : Int)) = false := decide_eq_false c13
            clear c13
            obtain rfl := Option.some.inj H
            obtain ⟨Ao96, co96, eo96⟩ := Kd.R_slice HO_8.out
            subst eo96
            go_wp2
            repeat (go_quiet (fail); try go_wp2)
            go_ret
            exact ⟨_, by first | rfl | (simp [errW_none, errW_some] <;> rfl) | (simp [*, errW_none, errW_some] <;> rfl), by (with_reducible repeat (first | apply Kd.R_alloc | apply Kd.R_drewN | apply Kd.R_drew)); exact HO_9.out, by repeat (first | (with_reducible first | exact HB.out | apply below_alloc | apply pw_below_drewN | apply below_drew1) | exact HB.out)⟩
    · rw [if_neg c5] at H
      exact absurd H (by simp)
  · rw [if_neg c4] at H
    exact absurd H (by simp)
end Go.Proofs.Ytmmdnjooddhhoaa.Rn
