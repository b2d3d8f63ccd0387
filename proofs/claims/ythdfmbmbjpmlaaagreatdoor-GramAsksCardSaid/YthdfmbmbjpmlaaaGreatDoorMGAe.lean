/- texts of this claim, one behind the other. -/
import Derived.Test.YthdfmbmbjpmlaaaGreatDoorMGAd
import Derived.Test.YthdfmbmbjpmlaaaGreatDoorMGAc
import Derived.Test.YthdfmbmbjpmlaaaGreatDoorMGAb
section
namespace Go.Proofs.YthdfmbmbjpmlaaaGreatDoor.Rn
open Go.RowKit Go.Proofs.YthdfmbmbjpmlaaaGreatDoorW.PrintWords Go.Proofs.YthdfmbmbjpmlaaaGreatDoorW.PrintLast Go.Proofs.YthdfmbmbjpmlaaaGreatDoorW.PrintMore
attribute [local go_sem] max2_int min2_int max_two min_two max_three min_three max_four min_four   -- for this text's walks alone
set_option linter.unusedVariables false
set_option linter.unusedSimpArgs false
mutual
def goboref3_pick.l0 : Nat → List (S114) → List (S114) → Int → List Int → List (S80) → Bool → Int → Option ((List (S80)))
 | 0, _, _, _, _, _, _, _ => none
 | k + 1, x0, x1, x2, x8, x9, x10, x11 => if (wrap64 (x11 + 1)) < (x8.length : Int) then (if 0 ≤ x11 then (if x11 < (x8.length : Int) then ((goboref3_in.f k x0 (rd x8 x11)).bind fun t336 => ((goboref3_in.f k x1 (rd x8 x11)).bind fun t338 => (if x2 = 1 then (if t336 = true then (goboref3_pick.j1 k x0 x1 x2 x8 x9 x10 x11 true) else (if x2 = 2 then (if t338 = true then (goboref3_pick.j1 k x0 x1 x2 x8 x9 x10 x11 true) else (if x2 = 3 then (if x2 = 4 then (if x2 = 5 then (goboref3_pick.j1 k x0 x1 x2 x8 x9 x10 x11 (!t336)) else (goboref3_pick.j1 k x0 x1 x2 x8 x9 x10 x11 false)) else (if x2 = 5 then (goboref3_pick.j1 k x0 x1 x2 x8 x9 x10 x11 (!t336)) else (goboref3_pick.j1 k x0 x1 x2 x8 x9 x10 x11 false))) else (if x2 = 4 then (if x2 = 5 then (goboref3_pick.j1 k x0 x1 x2 x8 x9 x10 x11 (!t336)) else (goboref3_pick.j1 k x0 x1 x2 x8 x9 x10 x11 false)) else (if x2 = 5 then (goboref3_pick.j1 k x0 x1 x2 x8 x9 x10 x11 (!t336)) else (goboref3_pick.j1 k x0 x1 x2 x8 x9 x10 x11 false))))) else (if x2 = 3 then (if t338 = true then (goboref3_pick.j1 k x0 x1 x2 x8 x9 x10 x11 true) else (if x2 = 4 then (if x2 = 5 then (goboref3_pick.j1 k x0 x1 x2 x8 x9 x10 x11 (!t336)) else (goboref3_pick.j1 k x0 x1 x2 x8 x9 x10 x11 false)) else (if x2 = 5 then (goboref3_pick.j1 k x0 x1 x2 x8 x9 x10 x11 (!t336)) else (goboref3_pick.j1 k x0 x1 x2 x8 x9 x10 x11 false)))) else (if x2 = 4 then (if x2 = 5 then (goboref3_pick.j1 k x0 x1 x2 x8 x9 x10 x11 (!t336)) else (goboref3_pick.j1 k x0 x1 x2 x8 x9 x10 x11 false)) else (if x2 = 5 then (goboref3_pick.j1 k x0 x1 x2 x8 x9 x10 x11 (!t336)) else (goboref3_pick.j1 k x0 x1 x2 x8 x9 x10 x11 false)))))) else (if x2 = 2 then (if t338 = true then (goboref3_pick.j1 k x0 x1 x2 x8 x9 x10 x11 true) else (if x2 = 3 then (if t336 = true then (goboref3_pick.j1 k x0 x1 x2 x8 x9 x10 x11 true) else (if x2 = 4 then (if x2 = 5 then (goboref3_pick.j1 k x0 x1 x2 x8 x9 x10 x11 (!t336)) else (goboref3_pick.j1 k x0 x1 x2 x8 x9 x10 x11 false)) else (if x2 = 5 then (goboref3_pick.j1 k x0 x1 x2 x8 x9 x10 x11 (!t336)) else (goboref3_pick.j1 k x0 x1 x2 x8 x9 x10 x11 false)))) else (if x2 = 4 then (if t336 = true then (if x2 = 5 then (goboref3_pick.j1 k x0 x1 x2 x8 x9 x10 x11 (!t336)) else (goboref3_pick.j1 k x0 x1 x2 x8 x9 x10 x11 false)) else (if x2 = 5 then (goboref3_pick.j1 k x0 x1 x2 x8 x9 x10 x11 (!t336)) else (goboref3_pick.j1 k x0 x1 x2 x8 x9 x10 x11 false))) else (if x2 = 5 then (goboref3_pick.j1 k x0 x1 x2 x8 x9 x10 x11 (!t336)) else (goboref3_pick.j1 k x0 x1 x2 x8 x9 x10 x11 false))))) else (if x2 = 3 then (if t336 = true then (goboref3_pick.j1 k x0 x1 x2 x8 x9 x10 x11 true) else (if t338 = true then (goboref3_pick.j1 k x0 x1 x2 x8 x9 x10 x11 true) else (if x2 = 4 then (if x2 = 5 then (goboref3_pick.j1 k x0 x1 x2 x8 x9 x10 x11 (!t336)) else (goboref3_pick.j1 k x0 x1 x2 x8 x9 x10 x11 false)) else (if x2 = 5 then (goboref3_pick.j1 k x0 x1 x2 x8 x9 x10 x11 (!t336)) else (goboref3_pick.j1 k x0 x1 x2 x8 x9 x10 x11 false))))) else (if x2 = 4 then (if t336 = true then (if t338 = true then (goboref3_pick.j1 k x0 x1 x2 x8 x9 x10 x11 true) else (if x2 = 5 then (goboref3_pick.j1 k x0 x1 x2 x8 x9 x10 x11 (!t336)) else (goboref3_pick.j1 k x0 x1 x2 x8 x9 x10 x11 false))) else (if x2 = 5 then (goboref3_pick.j1 k x0 x1 x2 x8 x9 x10 x11 (!t336)) else (goboref3_pick.j1 k x0 x1 x2 x8 x9 x10 x11 false))) else (if x2 = 5 then (goboref3_pick.j1 k x0 x1 x2 x8 x9 x10 x11 (!t336)) else (goboref3_pick.j1 k x0 x1 x2 x8 x9 x10 x11 false)))))))) else (none)) else (none)) else (some x9)
def goboref3_pick.j1 : Nat → List (S114) → List (S114) → Int → List Int → List (S80) → Bool → Int → Bool → Option ((List (S80)))
 | 0, _, _, _, _, _, _, _, _ => none
 | k + 1, x0, x1, x2, x8, x9, x10, x11, x14 => if x14 = true then (goboref3_pick.j2 k x0 x1 x2 x8 x9 x11 x14 (!x10)) else (goboref3_pick.j2 k x0 x1 x2 x8 x9 x11 x14 false)
def goboref3_pick.j2 : Nat → List (S114) → List (S114) → Int → List Int → List (S80) → Int → Bool → Bool → Option ((List (S80)))
 | 0, _, _, _, _, _, _, _, _ => none
 | k + 1, x0, x1, x2, x8, x9, x11, x14, x86 => if x86 = true then (if 0 ≤ x11 then (if x11 < (x8.length : Int) then ((goboref3_at.f (rd x8 x11)).bind fun t340 => (if x9.length < 17592186044416 then ((some (x9 ++ [(⟨t340, 0⟩ : S80)] : List (S80))).bind fun y341 => (if x14 = true then (if 0 ≤ (wrap64 (x11 + 1)) then (if (wrap64 (x11 + 1)) < (x8.length : Int) then ((goboref3_at.f (wrap64 ((rd x8 (wrap64 (x11 + 1))) - 1))).bind fun t345 => (if 0 ≤ (wrap64 ((y341.length : Int) - 1)) then (if (wrap64 ((y341.length : Int) - 1)) < (y341.length : Int) then (goboref3_pick.l0 k x0 x1 x2 x8 (y341.set ((wrap64 ((y341.length : Int) - 1)) : Int).toNat (⟨(rd_T80 y341 (wrap64 ((y341.length : Int) - 1))).f0, t345⟩ : S80)) x14 (wrap64 (x11 + 1))) else (none)) else (none))) else (none)) else (none)) else (goboref3_pick.l0 k x0 x1 x2 x8 y341 x14 (wrap64 (x11 + 1))))) else (none))) else (none)) else (none)) else (if x14 = true then (if 0 ≤ (wrap64 (x11 + 1)) then (if (wrap64 (x11 + 1)) < (x8.length : Int) then ((goboref3_at.f (wrap64 ((rd x8 (wrap64 (x11 + 1))) - 1))).bind fun t348 => (if 0 ≤ (wrap64 ((x9.length : Int) - 1)) then (if (wrap64 ((x9.length : Int) - 1)) < (x9.length : Int) then (goboref3_pick.l0 k x0 x1 x2 x8 (x9.set ((wrap64 ((x9.length : Int) - 1)) : Int).toNat (⟨(rd_T80 x9 (wrap64 ((x9.length : Int) - 1))).f0, t348⟩ : S80)) x14 (wrap64 (x11 + 1))) else (none)) else (none))) else (none)) else (none)) else (goboref3_pick.l0 k x0 x1 x2 x8 x9 x14 (wrap64 (x11 + 1))))
end
def goboref3_pick.f (k : Nat) (l0 : List (S114)) (l1 : List (S114)) (a2 : Int) : Option ((List (S80))) := (some (([(⟨0, 1112064⟩ : S114)] : List (S114)) : List (S114))).bind fun y323 => (if y323.length + l0.length < 8796093022208 then ((some (y323 ++ l0 : List (S114))).bind fun y326 => (if y326.length + l1.length < 8796093022208 then ((goboref3_cuts.f k (y326 ++ l1)).bind fun t332 => (goboref3_pick.l0 k l0 l1 a2 t332 ([] : List (S80)) false 0)) else (none))) else (none))
theorem goboref3_pick.mono_l : ∀ k, (∀ y0 y1 y2 y3 y4 y5 y6, LeO (goboref3_pick.l0 k y0 y1 y2 y3 y4 y5 y6) (goboref3_pick.l0 (k + 1) y0 y1 y2 y3 y4 y5 y6)) ∧ (∀ y0 y1 y2 y3 y4 y5 y6 y7, LeO (goboref3_pick.j1 k y0 y1 y2 y3 y4 y5 y6 y7) (goboref3_pick.j1 (k + 1) y0 y1 y2 y3 y4 y5 y6 y7)) ∧ (∀ y0 y1 y2 y3 y4 y5 y6 y7, LeO (goboref3_pick.j2 k y0 y1 y2 y3 y4 y5 y6 y7) (goboref3_pick.j2 (k + 1) y0 y1 y2 y3 y4 y5 y6 y7))
 | 0 => ⟨fun _ _ _ _ _ _ _ r h => by simp [goboref3_pick.l0] at h, fun _ _ _ _ _ _ _ _ r h => by simp [goboref3_pick.j1] at h, fun _ _ _ _ _ _ _ _ r h => by simp [goboref3_pick.j2] at h⟩
 | k + 1 => by
  obtain ⟨ih0, ih1, ih2⟩ := goboref3_pick.mono_l k
  refine ⟨?_, ?_, ?_⟩
  · intro y0 y1 y2 y3 y4 y5 y6
    unfold goboref3_pick.l0
    repeat' first
    | (with_reducible exact ih0 _ _ _ _ _ _ _)
    | (with_reducible exact ih1 _ _ _ _ _ _ _ _)
    | (with_reducible exact ih2 _ _ _ _ _ _ _ _)
    | (with_reducible exact goboref3_cuts.mono _ _)
    | (with_reducible exact goboref3_in.mono _ _ _)
    | (with_reducible exact LeO.refl _)
    | (with_reducible exact LeO.none _)
    | (with_reducible refine LeO.ite ?_ ?_)
    | (with_reducible refine LeO.bind ?_ (fun _ => ?_))
    | exact ih0 _ _ _ _ _ _ _
    | exact ih1 _ _ _ _ _ _ _ _
    | exact ih2 _ _ _ _ _ _ _ _
    | exact goboref3_cuts.mono _ _
    | exact goboref3_in.mono _ _ _
    | exact LeO.none _
    | refine LeO.ite ?_ ?_
    | refine LeO.bind ?_ (fun _ => ?_)
  · intro y0 y1 y2 y3 y4 y5 y6 y7
    unfold goboref3_pick.j1
    repeat' first
    | (with_reducible exact ih0 _ _ _ _ _ _ _)
    | (with_reducible exact ih1 _ _ _ _ _ _ _ _)
    | (with_reducible exact ih2 _ _ _ _ _ _ _ _)
    | (with_reducible exact goboref3_cuts.mono _ _)
    | (with_reducible exact goboref3_in.mono _ _ _)
    | (with_reducible exact LeO.refl _)
    | (with_reducible exact LeO.none _)
    | (with_reducible refine LeO.ite ?_ ?_)
    | (with_reducible refine LeO.bind ?_ (fun _ => ?_))
    | exact ih0 _ _ _ _ _ _ _
    | exact ih1 _ _ _ _ _ _ _ _
    | exact ih2 _ _ _ _ _ _ _ _
    | exact goboref3_cuts.mono _ _
    | exact goboref3_in.mono _ _ _
    | exact LeO.none _
    | refine LeO.ite ?_ ?_
    | refine LeO.bind ?_ (fun _ => ?_)
  · intro y0 y1 y2 y3 y4 y5 y6 y7
    unfold goboref3_pick.j2
    repeat' first
    | (with_reducible exact ih0 _ _ _ _ _ _ _)
    | (with_reducible exact ih1 _ _ _ _ _ _ _ _)
    | (with_reducible exact ih2 _ _ _ _ _ _ _ _)
    | (with_reducible exact goboref3_cuts.mono _ _)
    | (with_reducible exact goboref3_in.mono _ _ _)
    | (with_reducible exact LeO.refl _)
    | (with_reducible exact LeO.none _)
    | (with_reducible refine LeO.ite ?_ ?_)
    | (with_reducible refine LeO.bind ?_ (fun _ => ?_))
    | exact ih0 _ _ _ _ _ _ _
    | exact ih1 _ _ _ _ _ _ _ _
    | exact ih2 _ _ _ _ _ _ _ _
    | exact goboref3_cuts.mono _ _
    | exact goboref3_in.mono _ _ _
    | exact LeO.none _
    | refine LeO.ite ?_ ?_
    | refine LeO.bind ?_ (fun _ => ?_)
theorem goboref3_pick.mono : ∀ a0 a1 a2 k, LeO (goboref3_pick.f k a0 a1 a2) (goboref3_pick.f (k + 1) a0 a1 a2) := by
 intro a0 a1 a2 k
 obtain ⟨ih0, ih1, ih2⟩ := goboref3_pick.mono_l k
 unfold goboref3_pick.f
 repeat' first
  | (with_reducible exact ih0 _ _ _ _ _ _ _)
  | (with_reducible exact ih1 _ _ _ _ _ _ _ _)
  | (with_reducible exact ih2 _ _ _ _ _ _ _ _)
  | (with_reducible exact goboref3_cuts.mono _ _)
  | (with_reducible exact goboref3_in.mono _ _ _)
  | (with_reducible exact LeO.refl _)
  | (with_reducible exact LeO.none _)
  | (with_reducible refine LeO.ite ?_ ?_)
  | (with_reducible refine LeO.bind ?_ (fun _ => ?_))
  | exact ih0 _ _ _ _ _ _ _
  | exact ih1 _ _ _ _ _ _ _ _
  | exact ih2 _ _ _ _ _ _ _ _
  | exact goboref3_cuts.mono _ _
  | exact goboref3_in.mono _ _ _
  | exact LeO.none _
  | refine LeO.ite ?_ ?_
  | refine LeO.bind ?_ (fun _ => ?_)
theorem six_ways (a : Int) : a = 1 ∨ a = 2 ∨ a = 3 ∨ a = 4 ∨ a = 5 ∨ (a ≠ 1 ∧ a ≠ 2 ∧ a ≠ 3 ∧ a ≠ 4 ∧ a ≠ 5) := by omega
set_option maxHeartbeats 8000000 in
set_option maxRecDepth 100000 in
theorem goboref3_pick.calls (k : Nat) (A0 : Option Addr) (c0 : Nat) (l0 : List (S114)) (A1 : Option Addr) (c1 : Nat) (l1 : List (S114)) (a2 : Int) (r : List (S80)) (w : World) (hr0 : Kd.C k114 w A0 l0.length l0) (hc0 : l0.length ≤ c0) (hr1 : Kd.C k114 w A1 l1.length l1) (hc1 : l1.length ≤ c1) (h : goboref3_pick.f k l0 l1 a2 = some r) :
 Calls Tryz.prog 88 #[.slice A0 l0.length c0, .slice A1 l1.length c1, .int .i64 a2] w fun e w' => ∃ v0_ : Value, e = .returned (v0_) ∧ Kd.R k80 80 w' w.heap.size (fun _ => True) v0_ r ∧ Below w.heap.size w w' := by
 have hu114 := Tryz.underlying114
 have hu80 := Tryz.underlying80
 have HR0 := Aside0.mk hr0
 have HC0 := Aside0.mk hc0
 clear hr0 hc0
 have HR1 := Aside0.mk hr1
 have HC1 := Aside0.mk hc1
 clear hr1 hc1
 have HB := Aside0.mk (Below.refl w.heap.size w)
 have H : ((some (([(⟨0, 1112064⟩ : S114)] : List (S114)) : List (S114))).bind fun y323 => (if y323.length + l0.length < 8796093022208 then ((some (y323 ++ l0 : List (S114))).bind fun y326 => (if y326.length + l1.length < 8796093022208 then ((goboref3_cuts.f k (y326 ++ l1)).bind fun t332 => (goboref3_pick.l0 k l0 l1 a2 t332 ([] : List (S80)) false 0)) else (none))) else (none))) = some r := h
 clear h
 obtain ⟨y323, hy323⟩ : ∃ y_ : List (S114), y_ = (([(⟨0, 1112064⟩ : S114)] : List (S114))) := ⟨_, rfl⟩
 replace H : (if y323.length + l0.length < 8796093022208 then ((some (y323 ++ l0 : List (S114))).bind fun y326 => (if y326.length + l1.length < 8796093022208 then ((goboref3_cuts.f k (y326 ++ l1)).bind fun t332 => (goboref3_pick.l0 k l0 l1 a2 t332 ([] : List (S80)) false 0)) else (none))) else (none)) = some r := by first | (rw [hy323]; with_reducible exact H) | (have H2_ := (Option.bind_some _ _).symm.trans H; rw [hy323]; with_reducible exact H2_) | (have H2_ := (Option.bind_some _ _).symm.trans H; with_reducible exact H2_) | with_reducible exact H | (rw [hy323]; exact H) | exact H
 have Ny323 := Aside0.mk hy323
 clear hy323
 by_cases c4 : y323.length + l0.length < 8796093022208
 · rw [if_pos c4] at H
   have LMc4 := Aside0.mk c4
   clear c4
   obtain ⟨y326, hy326⟩ : ∃ y_ : List (S114), y_ = (y323 ++ l0) := ⟨_, rfl⟩
   replace H : (if y326.length + l1.length < 8796093022208 then ((goboref3_cuts.f k (y326 ++ l1)).bind fun t332 => (goboref3_pick.l0 k l0 l1 a2 t332 ([] : List (S80)) false 0)) else (none)) = some r := by first | (rw [hy326]; with_reducible exact H) | (have H2_ := (Option.bind_some _ _).symm.trans H; rw [hy326]; with_reducible exact H2_) | (have H2_ := (Option.bind_some _ _).symm.trans H; with_reducible exact H2_) | with_reducible exact H | (rw [hy326]; exact H) | exact H
   have Ny326 := Aside0.mk hy326
   clear hy326
   by_cases c5 : y326.length + l1.length < 8796093022208
   · rw [if_pos c5] at H
     have LMc5 := Aside0.mk c5
     clear c5
     obtain ⟨y329, hy329⟩ : ∃ y_ : List (S114), y_ = (y326 ++ l1) := ⟨_, rfl⟩
     replace H : ((goboref3_cuts.f k y329).bind fun t332 => (goboref3_pick.l0 k l0 l1 a2 t332 ([] : List (S80)) false 0)) = some r := by first | (rw [hy329]; with_reducible exact H) | (have H2_ := (Option.bind_some _ _).symm.trans H; rw [hy329]; with_reducible exact H2_) | (have H2_ := (Option.bind_some _ _).symm.trans H; with_reducible exact H2_) | with_reducible exact H | (rw [hy329]; exact H) | exact H
     have Ny329 := Aside0.mk hy329
     clear hy329
     replace H := Option.bind_eq_some_iff.mp H
     obtain ⟨t332, A60, H⟩ := H
     replace H : (goboref3_pick.l0 k l0 l1 a2 t332 ([] : List (S80)) false 0) = some r := H
     have A6 := Aside0.mk A60
     clear A60
     have H' := Aside0.mk H
     clear H
     go_enter Tryz.func88, Tryz.ntmps88
     iterate 4 (try (go_wp2_with (first | ((with_reducible refine gate_dst (N := 16) rfl ?_); refine Kd.R_lit k114 _ 114 ?hg (N := 16) ?hd (xs := ([(⟨0, 1112064⟩ : S114)] : List (S114))) (inner := [.int .i64 0, .int .i64 1112064]) (ok := fun _ => True) (okp := fun _ => True) ?hr ?hp (fun _ hk => hk) trivial (Below.refl _ _) (Nat.le_refl _) (by simp) ?_; (case hd => rfl); (case hg => rfl); (case hr => first | (go_simp; done) | (go_simp; rfl)); (case hp => exact (Reps.c2 (show Kd.M k114 _ _ _ (⟨0, 1112064⟩ : S114) [.int .i64 0, .int .i64 1112064] from (k114_mkM _ _ _ (⟨0, 1112064⟩ : S114) )) (Reps.none _ _))); intro v324 w7 ho8 hb hg_ hnew_; clear hg_ hnew_; (first | rw [← Ny323.out] at ho8 | (simp only [Int.reduceToNat] at ho8; rw [← Ny323.out] at ho8)); have n0_ := Aside0.mk (Kd.R_lower ho8 (below_size (by repeat (first | (with_reducible first | exact HB.out | apply below_alloc | apply pw_below_drewN | apply below_drew1) | exact HB.out)))); have n1_ := Aside0.mk (below_step (by repeat (first | (with_reducible first | exact HB.out | apply below_alloc | apply pw_below_drewN | apply below_drew1) | exact HB.out)) hb); clear HB; have HO325 := n0_; have HB := n1_; clear n0_ n1_; clear hb ho8) | ((with_reducible refine gate_builtin (b := .append) (xs := #[.tmp 16, .tmp 17]) rfl ?_); at_builtin; refine Kd.R_append_rows k114 (w0 := w) w.heap.size rfl (.tmp 16) (.tmp 17) 108 114 (.agg #[(.int .i64 0), (.int .i64 0)]) 16 rfl Tryz.underlying108 info114 rfl (by decide) (by omega) v324 y323 l0 _ _ _ (fun _ => True) (fun _ => False) rfl rfl ?aO ?aR (fun _ _ h => h) (fun _ h => h.elim) ?aF ?aB ?aS ?aL ?_; (case aR => repeat (first | exact (Kd.C_below HR0.out HB.out) | (with_reducible refine Kd.C_alloc ?_ _) | (with_reducible refine Kd.C_drewN ?_ _) | (with_reducible refine Kd.C_drew ?_))); (case aB => exact (by repeat (first | (with_reducible first | exact HB.out | apply below_alloc | apply pw_below_drewN | apply below_drew1) | exact HB.out))); (case aF => exact (fun _ _ => trivial)); (case aO => exact (by (with_reducible repeat (first | apply Kd.R_alloc | apply Kd.R_drewN | apply Kd.R_drew)); exact HO325.out)); (case aS => exact (below_size (by repeat (first | (with_reducible first | exact HB.out | apply below_alloc | apply pw_below_drewN | apply below_drew1) | exact HB.out)))); (case aL => have := LMc4.out; omega); intro v327 w9 ho hb hg hat; rw [← Ny326.out] at ho; have n0_ := Aside0.mk (hb); have n1_ := Aside0.mk (ho); clear HB; clear HO325; have HB := n0_; have HO328 := n1_; clear n0_ n1_; clear ho hb hg hat) | ((with_reducible refine gate_builtin (b := .append) (xs := #[.tmp 18, .tmp 19]) rfl ?_); at_builtin; refine Kd.R_append_rows k114 (w0 := w) w.heap.size rfl (.tmp 18) (.tmp 19) 108 114 (.agg #[(.int .i64 0), (.int .i64 0)]) 16 rfl Tryz.underlying108 info114 rfl (by decide) (by omega) v327 y326 l1 _ _ _ (fun _ => True) (fun _ => False) rfl rfl ?aO ?aR (fun _ _ h => h) (fun _ h => h.elim) ?aF ?aB ?aS ?aL ?_; (case aR => repeat (first | exact (Kd.C_below HR1.out HB.out) | (with_reducible refine Kd.C_alloc ?_ _) | (with_reducible refine Kd.C_drewN ?_ _) | (with_reducible refine Kd.C_drew ?_))); (case aB => exact (by repeat (first | (with_reducible first | exact HB.out | apply below_alloc | apply pw_below_drewN | apply below_drew1) | exact HB.out))); (case aF => exact (fun _ _ => trivial)); (case aO => exact (by (with_reducible repeat (first | apply Kd.R_alloc | apply Kd.R_drewN | apply Kd.R_drew)); exact HO328.out)); (case aS => exact (below_size (by repeat (first | (with_reducible first | exact HB.out | apply below_alloc | apply pw_below_drewN | apply below_drew1) | exact HB.out)))); (case aL => have := LMc5.out; omega); intro v330 w10 ho hb hg hat; rw [← Ny329.out] at ho; have n0_ := Aside0.mk (hb); have n1_ := Aside0.mk (ho); clear HB; clear HO328; have HB := n0_; have HO331 := n1_; clear n0_ n1_; clear ho hb hg hat; obtain ⟨Ao11, co11, eo11⟩ := Kd.R_slice HO331.out; subst eo11) | (go_at_call 92; (with_reducible refine (goboref3_cuts.calls k _ _ y329 t332 _ ?side1 ?side2 A6.out).mono ?_); (case side1 => repeat (first | exact (Kd.R_reads' HO331.out).2.2 | (with_reducible refine Kd.C_alloc ?_ _) | (with_reducible refine Kd.C_drewN ?_ _) | (with_reducible refine Kd.C_drew ?_))); (case side2 => exact (Kd.R_reads' HO331.out).2.1); rintro e w12 ⟨v333, rfl, ho0, hb⟩; have n0_ := Aside0.mk (Kd.R_below (by (with_reducible repeat (first | apply Kd.R_alloc | apply Kd.R_drewN | apply Kd.R_drew)); exact HO331.out) hb); have n1_ := Aside0.mk (Kd.R_lower ho0 (below_size (by repeat (first | (with_reducible first | exact HB.out | apply below_alloc | apply pw_below_drewN | apply below_drew1) | exact HB.out)))); have n2_ := Aside0.mk (below_step (by repeat (first | (with_reducible first | exact HB.out | apply below_alloc | apply pw_below_drewN | apply below_drew1) | exact HB.out)) hb); clear HO331; clear HB; have HO331 := n0_; have HO334 := n1_; have HB := n2_; clear n0_ n1_ n2_; (try clear hb); (try clear hb2); (try clear hk); (try clear hi); (try clear ho0)))); try (go_quiet (fail)))
     go_loopg [9, 10, 11] k (fun kq v9 v10 v11 w' => ∃ (x9_1 : List (S80)) (x10_1 : Bool) (x11_1 : Int), v10 = .bool x10_1 ∧ v11 = .int .i64 x11_1 ∧ Aside0 (goboref3_pick.l0 kq l0 l1 a2 t332 x9_1 x10_1 x11_1 = some r) ∧ Aside0 (kq ≤ k) ∧ Aside0 (Kd.R (Kd.int .i64) 3 w' w.heap.size (fun _ => True) v333 t332) ∧ Aside0 (Kd.R k80 80 w' w.heap.size (fun _ => True) v9 x9_1) ∧ Aside0 (Below w.heap.size w w'))
     case atStart => exact ⟨(([] : List (S80))), (false), (0), (by first | rfl | (simp; done) | (simp [*]; done)), (by first | rfl | (simp; done) | (simp [*]; done)), H', ⟨Nat.le_refl _⟩, ⟨by (with_reducible repeat (first | apply Kd.R_alloc | apply Kd.R_drewN | apply Kd.R_drew)); exact HO334.out⟩, ⟨by first | exact Kd.R_nil _ _ _ _ _ | exact Kd.N_nil _ _ _ _ _ | exact Kd.V_nil _ _ _ _ _ | exact Kd.Q_nil _ _ _ _ _ | exact Kd.S_nil _ _ _ _ _⟩, ⟨by repeat (first | (with_reducible first | exact HB.out | apply below_alloc | apply pw_below_drewN | apply below_drew1) | exact HB.out)⟩⟩
     case round =>
      clear H'
      try clear c1
      try clear c4
      try clear c5
      obtain ⟨x9_1, x10_1, x11_1, rfl, rfl, HA, HK1, HO_8, HO_9, HB⟩ := hrel
      cases gk with
      | zero => exact absurd HA.out (by simp [goboref3_pick.l0])
      | succ k1 =>
       have H := HA.out
       clear HA
       simp only [goboref3_pick.l0] at H
       by_cases c13 : (wrap64 (x11_1 + 1)) < (t332.length : Int)
       · rw [if_pos c13] at H
         have c13b0 : decide ((wrap64 (x11_1 + 1)) < (t332.length : Int)) = true := decide_eq_true c13
         clear c13
         by_cases c14 : 0 ≤ x11_1
         · rw [if_pos c14] at H
           have c14b0 : decide (0 ≤ x11_1) = true := decide_eq_true c14
           clear c14
           by_cases c15 : x11_1 < (t332.length : Int)
           · rw [if_pos c15] at H
             have c15b0 : decide (x11_1 < (t332.length : Int)) = true := decide_eq_true c15
             clear c15
             replace H := Option.bind_eq_some_iff.mp H
             obtain ⟨t336, A160, H⟩ := H
             replace H : ((goboref3_in.f k1 l1 (rd t332 x11_1)).bind fun t338 => (if a2 = 1 then (if t336 = true then (goboref3_pick.j1 k1 l0 l1 a2 t332 x9_1 x10_1 x11_1 true) else (if a2 = 2 then (if t338 = true then (goboref3_pick.j1 k1 l0 l1 a2 t332 x9_1 x10_1 x11_1 true) else (if a2 = 3 then (if a2 = 4 then (if a2 = 5 then (goboref3_pick.j1 k1 l0 l1 a2 t332 x9_1 x10_1 x11_1 (!t336)) else (goboref3_pick.j1 k1 l0 l1 a2 t332 x9_1 x10_1 x11_1 false)) else (if a2 = 5 then (goboref3_pick.j1 k1 l0 l1 a2 t332 x9_1 x10_1 x11_1 (!t336)) else (goboref3_pick.j1 k1 l0 l1 a2 t332 x9_1 x10_1 x11_1 false))) else (if a2 = 4 then (if a2 = 5 then (goboref3_pick.j1 k1 l0 l1 a2 t332 x9_1 x10_1 x11_1 (!t336)) else (goboref3_pick.j1 k1 l0 l1 a2 t332 x9_1 x10_1 x11_1 false)) else (if a2 = 5 then (goboref3_pick.j1 k1 l0 l1 a2 t332 x9_1 x10_1 x11_1 (!t336)) else (goboref3_pick.j1 k1 l0 l1 a2 t332 x9_1 x10_1 x11_1 false))))) else (if a2 = 3 then (if t338 = true then (goboref3_pick.j1 k1 l0 l1 a2 t332 x9_1 x10_1 x11_1 true) else (if a2 = 4 then (if a2 = 5 then (goboref3_pick.j1 k1 l0 l1 a2 t332 x9_1 x10_1 x11_1 (!t336)) else (goboref3_pick.j1 k1 l0 l1 a2 t332 x9_1 x10_1 x11_1 false)) else (if a2 = 5 then (goboref3_pick.j1 k1 l0 l1 a2 t332 x9_1 x10_1 x11_1 (!t336)) else (goboref3_pick.j1 k1 l0 l1 a2 t332 x9_1 x10_1 x11_1 false)))) else (if a2 = 4 then (if a2 = 5 then (goboref3_pick.j1 k1 l0 l1 a2 t332 x9_1 x10_1 x11_1 (!t336)) else (goboref3_pick.j1 k1 l0 l1 a2 t332 x9_1 x10_1 x11_1 false)) else (if a2 = 5 then (goboref3_pick.j1 k1 l0 l1 a2 t332 x9_1 x10_1 x11_1 (!t336)) else (goboref3_pick.j1 k1 l0 l1 a2 t332 x9_1 x10_1 x11_1 false)))))) else (if a2 = 2 then (if t338 = true then (goboref3_pick.j1 k1 l0 l1 a2 t332 x9_1 x10_1 x11_1 true) else (if a2 = 3 then (if t336 = true then (goboref3_pick.j1 k1 l0 l1 a2 t332 x9_1 x10_1 x11_1 true) else (if a2 = 4 then (if a2 = 5 then (goboref3_pick.j1 k1 l0 l1 a2 t332 x9_1 x10_1 x11_1 (!t336)) else (goboref3_pick.j1 k1 l0 l1 a2 t332 x9_1 x10_1 x11_1 false)) else (if a2 = 5 then (goboref3_pick.j1 k1 l0 l1 a2 t332 x9_1 x10_1 x11_1 (!t336)) else (goboref3_pick.j1 k1 l0 l1 a2 t332 x9_1 x10_1 x11_1 false)))) else (if a2 = 4 then (if t336 = true then (if a2 = 5 then (goboref3_pick.j1 k1 l0 l1 a2 t332 x9_1 x10_1 x11_1 (!t336)) else (goboref3_pick.j1 k1 l0 l1 a2 t332 x9_1 x10_1 x11_1 false)) else (if a2 = 5 then (goboref3_pick.j1 k1 l0 l1 a2 t332 x9_1 x10_1 x11_1 (!t336)) else (goboref3_pick.j1 k1 l0 l1 a2 t332 x9_1 x10_1 x11_1 false))) else (if a2 = 5 then (goboref3_pick.j1 k1 l0 l1 a2 t332 x9_1 x10_1 x11_1 (!t336)) else (goboref3_pick.j1 k1 l0 l1 a2 t332 x9_1 x10_1 x11_1 false))))) else (if a2 = 3 then (if t336 = true then (goboref3_pick.j1 k1 l0 l1 a2 t332 x9_1 x10_1 x11_1 true) else (if t338 = true then (goboref3_pick.j1 k1 l0 l1 a2 t332 x9_1 x10_1 x11_1 true) else (if a2 = 4 then (if a2 = 5 then (goboref3_pick.j1 k1 l0 l1 a2 t332 x9_1 x10_1 x11_1 (!t336)) else (goboref3_pick.j1 k1 l0 l1 a2 t332 x9_1 x10_1 x11_1 false)) else (if a2 = 5 then (goboref3_pick.j1 k1 l0 l1 a2 t332 x9_1 x10_1 x11_1 (!t336)) else (goboref3_pick.j1 k1 l0 l1 a2 t332 x9_1 x10_1 x11_1 false))))) else (if a2 = 4 then (if t336 = true then (if t338 = true then (goboref3_pick.j1 k1 l0 l1 a2 t332 x9_1 x10_1 x11_1 true) else (if a2 = 5 then (goboref3_pick.j1 k1 l0 l1 a2 t332 x9_1 x10_1 x11_1 (!t336)) else (goboref3_pick.j1 k1 l0 l1 a2 t332 x9_1 x10_1 x11_1 false))) else (if a2 = 5 then (goboref3_pick.j1 k1 l0 l1 a2 t332 x9_1 x10_1 x11_1 (!t336)) else (goboref3_pick.j1 k1 l0 l1 a2 t332 x9_1 x10_1 x11_1 false))) else (if a2 = 5 then (goboref3_pick.j1 k1 l0 l1 a2 t332 x9_1 x10_1 x11_1 (!t336)) else (goboref3_pick.j1 k1 l0 l1 a2 t332 x9_1 x10_1 x11_1 false))))))) = some r := H
             have A16 := Aside0.mk A160
             clear A160
             replace H := Option.bind_eq_some_iff.mp H
             obtain ⟨t338, A170, H⟩ := H
             replace H : (if a2 = 1 then (if t336 = true then (goboref3_pick.j1 k1 l0 l1 a2 t332 x9_1 x10_1 x11_1 true) else (if a2 = 2 then (if t338 = true then (goboref3_pick.j1 k1 l0 l1 a2 t332 x9_1 x10_1 x11_1 true) else (if a2 = 3 then (if a2 = 4 then (if a2 = 5 then (goboref3_pick.j1 k1 l0 l1 a2 t332 x9_1 x10_1 x11_1 (!t336)) else (goboref3_pick.j1 k1 l0 l1 a2 t332 x9_1 x10_1 x11_1 false)) else (if a2 = 5 then (goboref3_pick.j1 k1 l0 l1 a2 t332 x9_1 x10_1 x11_1 (!t336)) else (goboref3_pick.j1 k1 l0 l1 a2 t332 x9_1 x10_1 x11_1 false))) else (if a2 = 4 then (if a2 = 5 then (goboref3_pick.j1 k1 l0 l1 a2 t332 x9_1 x10_1 x11_1 (!t336)) else (goboref3_pick.j1 k1 l0 l1 a2 t332 x9_1 x10_1 x11_1 false)) else (if a2 = 5 then (goboref3_pick.j1 k1 l0 l1 a2 t332 x9_1 x10_1 x11_1 (!t336)) else (goboref3_pick.j1 k1 l0 l1 a2 t332 x9_1 x10_1 x11_1 false))))) else (if a2 = 3 then (if t338 = true then (goboref3_pick.j1 k1 l0 l1 a2 t332 x9_1 x10_1 x11_1 true) else (if a2 = 4 then (if a2 = 5 then (goboref3_pick.j1 k1 l0 l1 a2 t332 x9_1 x10_1 x11_1 (!t336)) else (goboref3_pick.j1 k1 l0 l1 a2 t332 x9_1 x10_1 x11_1 false)) else (if a2 = 5 then (goboref3_pick.j1 k1 l0 l1 a2 t332 x9_1 x10_1 x11_1 (!t336)) else (goboref3_pick.j1 k1 l0 l1 a2 t332 x9_1 x10_1 x11_1 false)))) else (if a2 = 4 then (if a2 = 5 then (goboref3_pick.j1 k1 l0 l1 a2 t332 x9_1 x10_1 x11_1 (!t336)) else (goboref3_pick.j1 k1 l0 l1 a2 t332 x9_1 x10_1 x11_1 false)) else (if a2 = 5 then (goboref3_pick.j1 k1 l0 l1 a2 t332 x9_1 x10_1 x11_1 (!t336)) else (goboref3_pick.j1 k1 l0 l1 a2 t332 x9_1 x10_1 x11_1 false)))))) else (if a2 = 2 then (if t338 = true then (goboref3_pick.j1 k1 l0 l1 a2 t332 x9_1 x10_1 x11_1 true) else (if a2 = 3 then (if t336 = true then (goboref3_pick.j1 k1 l0 l1 a2 t332 x9_1 x10_1 x11_1 true) else (if a2 = 4 then (if a2 = 5 then (goboref3_pick.j1 k1 l0 l1 a2 t332 x9_1 x10_1 x11_1 (!t336)) else (goboref3_pick.j1 k1 l0 l1 a2 t332 x9_1 x10_1 x11_1 false)) else (if a2 = 5 then (goboref3_pick.j1 k1 l0 l1 a2 t332 x9_1 x10_1 x11_1 (!t336)) else (goboref3_pick.j1 k1 l0 l1 a2 t332 x9_1 x10_1 x11_1 false)))) else (if a2 = 4 then (if t336 = true then (if a2 = 5 then (goboref3_pick.j1 k1 l0 l1 a2 t332 x9_1 x10_1 x11_1 (!t336)) else (goboref3_pick.j1 k1 l0 l1 a2 t332 x9_1 x10_1 x11_1 false)) else (if a2 = 5 then (goboref3_pick.j1 k1 l0 l1 a2 t332 x9_1 x10_1 x11_1 (!t336)) else (goboref3_pick.j1 k1 l0 l1 a2 t332 x9_1 x10_1 x11_1 false))) else (if a2 = 5 then (goboref3_pick.j1 k1 l0 l1 a2 t332 x9_1 x10_1 x11_1 (!t336)) else (goboref3_pick.j1 k1 l0 l1 a2 t332 x9_1 x10_1 x11_1 false))))) else (if a2 = 3 then (if t336 = true then (goboref3_pick.j1 k1 l0 l1 a2 t332 x9_1 x10_1 x11_1 true) else (if t338 = true then (goboref3_pick.j1 k1 l0 l1 a2 t332 x9_1 x10_1 x11_1 true) else (if a2 = 4 then (if a2 = 5 then (goboref3_pick.j1 k1 l0 l1 a2 t332 x9_1 x10_1 x11_1 (!t336)) else (goboref3_pick.j1 k1 l0 l1 a2 t332 x9_1 x10_1 x11_1 false)) else (if a2 = 5 then (goboref3_pick.j1 k1 l0 l1 a2 t332 x9_1 x10_1 x11_1 (!t336)) else (goboref3_pick.j1 k1 l0 l1 a2 t332 x9_1 x10_1 x11_1 false))))) else (if a2 = 4 then (if t336 = true then (if t338 = true then (goboref3_pick.j1 k1 l0 l1 a2 t332 x9_1 x10_1 x11_1 true) else (if a2 = 5 then (goboref3_pick.j1 k1 l0 l1 a2 t332 x9_1 x10_1 x11_1 (!t336)) else (goboref3_pick.j1 k1 l0 l1 a2 t332 x9_1 x10_1 x11_1 false))) else (if a2 = 5 then (goboref3_pick.j1 k1 l0 l1 a2 t332 x9_1 x10_1 x11_1 (!t336)) else (goboref3_pick.j1 k1 l0 l1 a2 t332 x9_1 x10_1 x11_1 false))) else (if a2 = 5 then (goboref3_pick.j1 k1 l0 l1 a2 t332 x9_1 x10_1 x11_1 (!t336)) else (goboref3_pick.j1 k1 l0 l1 a2 t332 x9_1 x10_1 x11_1 false)))))) = some r := H
             have A17 := Aside0.mk A170
             clear A170
             have HC18 := Aside0.mk H
             clear H
             obtain ⟨Ao19, co19, eo19⟩ := Kd.R_slice HO_8.out
             subst eo19
             have p335 : 0 ≤ (x11_1 : Int) := of_decide_eq_true (by first | (with_reducible assumption) | assumption)
             have q335 : x11_1 < (t332.length : Int) := of_decide_eq_true (by first | (with_reducible assumption) | assumption)
             obtain ⟨ad335, e335, hx335_0⟩ := Kd.at_int (Kd.R_reads' HO_8.out).2.2 x11_1 p335 q335
             cases e335
             replace p335 := eq_true p335
             replace q335 := eq_true q335
             go_upto_region 9 with (first | (go_at_call 93; (with_reducible refine (goboref3_in.calls k1 _ _ l0 (rd t332 x11_1) t336 _ ?side1 ?side2 A16.out).mono ?_); (case side1 => repeat (first | exact (Kd.C_below HR0.out HB.out) | (with_reducible refine Kd.C_alloc ?_ _) | (with_reducible refine Kd.C_drewN ?_ _) | (with_reducible refine Kd.C_drew ?_))); (case side2 => exact HC0.out); rintro e w' ⟨rfl, ⟨nd, rfl⟩⟩; (first | exact ⟨rfl, _, World.drewN_drewN _ _ _⟩ | exact ⟨rfl, _, Eq.trans (World.drewN_drewN _ _ _) (congrArg (World.drewN _) (Nat.add_assoc _ _ _))⟩ | (have p337 : 0 ≤ (x11_1 : Int) := of_decide_eq_true (by first | (with_reducible assumption) | assumption); have q337 : x11_1 < (t332.length : Int) := of_decide_eq_true (by first | (with_reducible assumption) | assumption); obtain ⟨ad337, e337, hx337_0⟩ := Kd.at_int (Kd.R_reads' HO_8.out).2.2 x11_1 p337 q337; obtain rfl : ad335 = ad337 := (by injection e337); replace p337 := eq_true p337; replace q337 := eq_true q337))) | (go_at_call 93; (with_reducible refine (goboref3_in.calls k1 _ _ l1 (rd t332 x11_1) t338 _ ?side1 ?side2 A17.out).mono ?_); (case side1 => repeat (first | exact (Kd.C_below HR1.out (by repeat (first | (with_reducible first | exact HB.out | apply below_alloc | apply pw_below_drewN | apply below_drew1) | exact HB.out))) | (with_reducible refine Kd.C_alloc ?_ _) | (with_reducible refine Kd.C_drewN ?_ _) | (with_reducible refine Kd.C_drew ?_))); (case side2 => exact HC1.out); rintro e w' ⟨rfl, ⟨nd, rfl⟩⟩; (try first | exact ⟨rfl, _, World.drewN_drewN _ _ _⟩ | exact ⟨rfl, _, Eq.trans (World.drewN_drewN _ _ _) (congrArg (World.drewN _) (Nat.add_assoc _ _ _))⟩)))
             repeat (go_quiet (first | (go_at_call 93; (with_reducible refine (goboref3_in.calls k1 _ _ l0 (rd t332 x11_1) t336 _ ?side1 ?side2 A16.out).mono ?_); (case side1 => repeat (first | exact (Kd.C_below HR0.out HB.out) | (with_reducible refine Kd.C_alloc ?_ _) | (with_reducible refine Kd.C_drewN ?_ _) | (with_reducible refine Kd.C_drew ?_))); (case side2 => exact HC0.out); rintro e w' ⟨rfl, ⟨nd, rfl⟩⟩; (first | exact ⟨rfl, _, World.drewN_drewN _ _ _⟩ | exact ⟨rfl, _, Eq.trans (World.drewN_drewN _ _ _) (congrArg (World.drewN _) (Nat.add_assoc _ _ _))⟩ | (have p337 : 0 ≤ (x11_1 : Int) := of_decide_eq_true (by first | (with_reducible assumption) | assumption); have q337 : x11_1 < (t332.length : Int) := of_decide_eq_true (by first | (with_reducible assumption) | assumption); obtain ⟨ad337, e337, hx337_0⟩ := Kd.at_int (Kd.R_reads' HO_8.out).2.2 x11_1 p337 q337; obtain rfl : ad335 = ad337 := (by injection e337); replace p337 := eq_true p337; replace q337 := eq_true q337))) | (go_at_call 93; (with_reducible refine (goboref3_in.calls k1 _ _ l1 (rd t332 x11_1) t338 _ ?side1 ?side2 A17.out).mono ?_); (case side1 => repeat (first | exact (Kd.C_below HR1.out (by repeat (first | (with_reducible first | exact HB.out | apply below_alloc | apply pw_below_drewN | apply below_drew1) | exact HB.out))) | (with_reducible refine Kd.C_alloc ?_ _) | (with_reducible refine Kd.C_drewN ?_ _) | (with_reducible refine Kd.C_drew ?_))); (case side2 => exact HC1.out); rintro e w' ⟨rfl, ⟨nd, rfl⟩⟩; (try first | exact ⟨rfl, _, World.drewN_drewN _ _ _⟩ | exact ⟨rfl, _, Eq.trans (World.drewN_drewN _ _ _) (congrArg (World.drewN _) (Nat.add_assoc _ _ _))⟩))); go_upto_region 9 with (first | (go_at_call 93; (with_reducible refine (goboref3_in.calls k1 _ _ l0 (rd t332 x11_1) t336 _ ?side1 ?side2 A16.out).mono ?_); (case side1 => repeat (first | exact (Kd.C_below HR0.out HB.out) | (with_reducible refine Kd.C_alloc ?_ _) | (with_reducible refine Kd.C_drewN ?_ _) | (with_reducible refine Kd.C_drew ?_))); (case side2 => exact HC0.out); rintro e w' ⟨rfl, ⟨nd, rfl⟩⟩; (first | exact ⟨rfl, _, World.drewN_drewN _ _ _⟩ | exact ⟨rfl, _, Eq.trans (World.drewN_drewN _ _ _) (congrArg (World.drewN _) (Nat.add_assoc _ _ _))⟩ | (have p337 : 0 ≤ (x11_1 : Int) := of_decide_eq_true (by first | (with_reducible assumption) | assumption); have q337 : x11_1 < (t332.length : Int) := of_decide_eq_true (by first | (with_reducible assumption) | assumption); obtain ⟨ad337, e337, hx337_0⟩ := Kd.at_int (Kd.R_reads' HO_8.out).2.2 x11_1 p337 q337; obtain rfl : ad335 = ad337 := (by injection e337); replace p337 := eq_true p337; replace q337 := eq_true q337))) | (go_at_call 93; (with_reducible refine (goboref3_in.calls k1 _ _ l1 (rd t332 x11_1) t338 _ ?side1 ?side2 A17.out).mono ?_); (case side1 => repeat (first | exact (Kd.C_below HR1.out (by repeat (first | (with_reducible first | exact HB.out | apply below_alloc | apply pw_below_drewN | apply below_drew1) | exact HB.out))) | (with_reducible refine Kd.C_alloc ?_ _) | (with_reducible refine Kd.C_drewN ?_ _) | (with_reducible refine Kd.C_drew ?_))); (case side2 => exact HC1.out); rintro e w' ⟨rfl, ⟨nd, rfl⟩⟩; (try first | exact ⟨rfl, _, World.drewN_drewN _ _ _⟩ | exact ⟨rfl, _, Eq.trans (World.drewN_drewN _ _ _) (congrArg (World.drewN _) (Nat.add_assoc _ _ _))⟩))))
             (try simp only [Act.put, List.setIfInBounds_toArray, List.set_cons_zero, List.set_cons_succ])
             go_cut [14] (fun v14 wc => ∃ (kq : Nat) (x14_17 : Bool), v14 = .bool x14_17 ∧ Aside0 (goboref3_pick.j1 kq l0 l1 a2 t332 x9_1 x10_1 x11_1 x14_17 = some r) ∧ Aside0 (kq ≤ k1) ∧ Aside0 (Kd.R (Kd.int .i64) 3 wc w.heap.size (fun _ => True) (.slice (some ad335) t332.length co19) t332) ∧ Aside0 (Kd.R k80 80 wc w.heap.size (fun _ => True) u9 x9_1) ∧ Aside0 (Below w.heap.size w wc))
             case first =>
              have H := HC18.out
              clear HC18
              rcases six_ways a2 with e | e | e | e | e | ⟨n1, n2, n3, n4, n5⟩
              iterate 5 (subst e; cases t336 <;> cases t338 <;> ((repeat (first | rw [if_pos (by decide)] at H | rw [if_neg (by decide)] at H)); go_wp2; (repeat (go_quiet (fail); try go_wp2)); go_meet; (case rel => exact ⟨_, _, rfl, ⟨H⟩, ⟨by have := HK1.out; first | omega | exact Nat.le_refl _⟩, ⟨by (with_reducible repeat (first | apply Kd.R_alloc | apply Kd.R_drewN | apply Kd.R_drew)); exact HO_8.out⟩, ⟨by (with_reducible repeat (first | apply Kd.R_alloc | apply Kd.R_drewN | apply Kd.R_drew)); exact HO_9.out⟩, ⟨by repeat (first | (with_reducible first | exact HB.out | apply below_alloc | apply pw_below_drewN | apply below_drew1) | exact HB.out)⟩⟩)))
              have b1 : (a2 == 1) = false := beq_eq_false_iff_ne.mpr n1
              have b2 : (a2 == 2) = false := beq_eq_false_iff_ne.mpr n2
              have b3 : (a2 == 3) = false := beq_eq_false_iff_ne.mpr n3
              have b4 : (a2 == 4) = false := beq_eq_false_iff_ne.mpr n4
              have b5 : (a2 == 5) = false := beq_eq_false_iff_ne.mpr n5
              cases t336 <;> cases t338 <;> ((repeat (first | rw [if_pos (by decide)] at H | rw [if_neg (by decide)] at H | rw [if_neg n1] at H | rw [if_neg n2] at H | rw [if_neg n3] at H | rw [if_neg n4] at H | rw [if_neg n5] at H)); go_wp2; (repeat (go_quiet (fail); try go_wp2)); go_meet; (case rel => exact ⟨_, _, rfl, ⟨H⟩, ⟨by have := HK1.out; first | omega | exact Nat.le_refl _⟩, ⟨by (with_reducible repeat (first | apply Kd.R_alloc | apply Kd.R_drewN | apply Kd.R_drew)); exact HO_8.out⟩, ⟨by (with_reducible repeat (first | apply Kd.R_alloc | apply Kd.R_drewN | apply Kd.R_drew)); exact HO_9.out⟩, ⟨by repeat (first | (with_reducible first | exact HB.out | apply below_alloc | apply pw_below_drewN | apply below_drew1) | exact HB.out)⟩⟩))
             case rest =>
              clear HC18
              try clear c4
              try clear c5
              obtain ⟨kq, x14_17, rfl, HA, HJ17, HO_8, HO_9, HB⟩ := hcut
              cases kq with
              | zero => exact absurd HA.out (by simp [goboref3_pick.j1])
              | succ kj17 =>
               have H := HA.out
               clear HA
               simp only [goboref3_pick.j1] at H
               have HC63 := Aside0.mk H
               clear H
               go_upto_region 10 with (fail)
               repeat (go_quiet (fail); go_upto_region 10 with (fail))
               go_cut [86] (fun v86 wc => ∃ (kq : Nat) (x86_62 : Bool), v86 = .bool x86_62 ∧ Aside0 (goboref3_pick.j2 kq l0 l1 a2 t332 x9_1 x11_1 x14_17 x86_62 = some r) ∧ Aside0 (kq ≤ kj17) ∧ Aside0 (Kd.R (Kd.int .i64) 3 wc w.heap.size (fun _ => True) (.slice (some ad335) t332.length co19) t332) ∧ Aside0 (Kd.R k80 80 wc w.heap.size (fun _ => True) u9 x9_1) ∧ Aside0 (Below w.heap.size w wc))
               case first =>
                have H := HC63.out
                clear HC63
                by_cases c64 : x14_17 = true
                · subst c64
                  have H1 : (goboref3_pick.j2 kj17 l0 l1 a2 t332 x9_1 x11_1 true (!x10_1)) = some r := by rw [if_pos rfl] at H; exact H
                  clear H
                  have H := H1
                  clear H1
                  have H' := Aside0.mk H
                  clear H
                  go_wp2
                  repeat (go_quiet (fail); try go_wp2)
                  go_meet
                  case rel => exact ⟨_, (!x10_1), (by first | rfl | (simp; done) | (simp [*]; done)), H', ⟨by have := HK1.out; have := HJ17.out; first | omega | exact Nat.le_refl _⟩, ⟨by (with_reducible repeat (first | apply Kd.R_alloc | apply Kd.R_drewN | apply Kd.R_drew)); exact HO_8.out⟩, ⟨by (with_reducible repeat (first | apply Kd.R_alloc | apply Kd.R_drewN | apply Kd.R_drew)); exact HO_9.out⟩, ⟨by repeat (first | (with_reducible first | exact HB.out | apply below_alloc | apply pw_below_drewN | apply below_drew1) | exact HB.out)⟩⟩
                · replace c64 := Bool.eq_false_iff.mpr c64
                  subst c64
                  have H1 : (goboref3_pick.j2 kj17 l0 l1 a2 t332 x9_1 x11_1 false false) = some r := by rw [if_neg (show ¬ (false = true) by decide)] at H; exact H
                  clear H
                  have H := H1
                  clear H1
                  have H' := Aside0.mk H
                  clear H
                  go_wp2
                  repeat (go_quiet (fail); try go_wp2)
                  go_meet
                  case rel => exact ⟨_, (false), (by first | rfl | (simp; done) | (simp [*]; done)), H', ⟨by have := HK1.out; have := HJ17.out; first | omega | exact Nat.le_refl _⟩, ⟨by (with_reducible repeat (first | apply Kd.R_alloc | apply Kd.R_drewN | apply Kd.R_drew)); exact HO_8.out⟩, ⟨by (with_reducible repeat (first | apply Kd.R_alloc | apply Kd.R_drewN | apply Kd.R_drew)); exact HO_9.out⟩, ⟨by repeat (first | (with_reducible first | exact HB.out | apply below_alloc | apply pw_below_drewN | apply below_drew1) | exact HB.out)⟩⟩
               case rest =>
                clear HC63
                try clear c4
                try clear c5
                obtain ⟨kq, x86_62, rfl, HA, HJ62, HO_8, HO_9, HB⟩ := hcut
                cases kq with
                | zero => exact absurd HA.out (by simp [goboref3_pick.j2])
                | succ kj62 =>
                 have H := HA.out
                 clear HA
                 simp only [goboref3_pick.j2] at H
                 by_cases c65 : x86_62 = true
                 · subst c65
                   have H1 : (if 0 ≤ x11_1 then (if x11_1 < (t332.length : Int) then ((goboref3_at.f (rd t332 x11_1)).bind fun t340 => (if x9_1.length < 17592186044416 then ((some (x9_1 ++ [(⟨t340, 0⟩ : S80)] : List (S80))).bind fun y341 => (if x14_17 = true then (if 0 ≤ (wrap64 (x11_1 + 1)) then (if (wrap64 (x11_1 + 1)) < (t332.length : Int) then ((goboref3_at.f (wrap64 ((rd t332 (wrap64 (x11_1 + 1))) - 1))).bind fun t345 => (if 0 ≤ (wrap64 ((y341.length : Int) - 1)) then (if (wrap64 ((y341.length : Int) - 1)) < (y341.length : Int) then (goboref3_pick.l0 kj62 l0 l1 a2 t332 (y341.set ((wrap64 ((y341.length : Int) - 1)) : Int).toNat (⟨(rd_T80 y341 (wrap64 ((y341.length : Int) - 1))).f0, t345⟩ : S80)) x14_17 (wrap64 (x11_1 + 1))) else (none)) else (none))) else (none)) else (none)) else (goboref3_pick.l0 kj62 l0 l1 a2 t332 y341 x14_17 (wrap64 (x11_1 + 1))))) else (none))) else (none)) else (none)) = some r := by rw [if_pos rfl] at H; exact H
                   clear H
                   have H := H1
                   clear H1
                   by_cases c66 : 0 ≤ x11_1
                   · rw [if_pos c66] at H
                     have c66b0 : decide (0 ≤ x11_1) = true := decide_eq_true c66
                     clear c66
                     by_cases c67 : x11_1 < (t332.length : Int)
                     · rw [if_pos c67] at H
                       have c67b0 : decide (x11_1 < (t332.length : Int)) = true := decide_eq_true c67
                       clear c67
                       replace H := Option.bind_eq_some_iff.mp H
                       obtain ⟨t340, A680, H⟩ := H
                       replace H : (if x9_1.length < 17592186044416 then ((some (x9_1 ++ [(⟨t340, 0⟩ : S80)] : List (S80))).bind fun y341 => (if x14_17 = true then (if 0 ≤ (wrap64 (x11_1 + 1)) then (if (wrap64 (x11_1 + 1)) < (t332.length : Int) then ((goboref3_at.f (wrap64 ((rd t332 (wrap64 (x11_1 + 1))) - 1))).bind fun t345 => (if 0 ≤ (wrap64 ((y341.length : Int) - 1)) then (if (wrap64 ((y341.length : Int) - 1)) < (y341.length : Int) then (goboref3_pick.l0 kj62 l0 l1 a2 t332 (y341.set ((wrap64 ((y341.length : Int) - 1)) : Int).toNat (⟨(rd_T80 y341 (wrap64 ((y341.length : Int) - 1))).f0, t345⟩ : S80)) x14_17 (wrap64 (x11_1 + 1))) else (none)) else (none))) else (none)) else (none)) else (goboref3_pick.l0 kj62 l0 l1 a2 t332 y341 x14_17 (wrap64 (x11_1 + 1))))) else (none)) = some r := H
                       have A68 := Aside0.mk A680
                       clear A680
                       by_cases c69 : x9_1.length < 17592186044416
                       · rw [if_pos c69] at H
                         have LMc69 := Aside0.mk c69
                         clear c69
                         obtain ⟨y341, hy341⟩ : ∃ y_ : List (S80), y_ = (x9_1 ++ [(⟨t340, 0⟩ : S80)]) := ⟨_, rfl⟩
                         replace H : (if x14_17 = true then (if 0 ≤ (wrap64 (x11_1 + 1)) then (if (wrap64 (x11_1 + 1)) < (t332.length : Int) then ((goboref3_at.f (wrap64 ((rd t332 (wrap64 (x11_1 + 1))) - 1))).bind fun t345 => (if 0 ≤ (wrap64 ((y341.length : Int) - 1)) then (if (wrap64 ((y341.length : Int) - 1)) < (y341.length : Int) then (goboref3_pick.l0 kj62 l0 l1 a2 t332 (y341.set ((wrap64 ((y341.length : Int) - 1)) : Int).toNat (⟨(rd_T80 y341 (wrap64 ((y341.length : Int) - 1))).f0, t345⟩ : S80)) x14_17 (wrap64 (x11_1 + 1))) else (none)) else (none))) else (none)) else (none)) else (goboref3_pick.l0 kj62 l0 l1 a2 t332 y341 x14_17 (wrap64 (x11_1 + 1)))) = some r := by first | (rw [hy341]; with_reducible exact H) | (have H2_ := (Option.bind_some _ _).symm.trans H; rw [hy341]; with_reducible exact H2_) | (have H2_ := (Option.bind_some _ _).symm.trans H; with_reducible exact H2_) | with_reducible exact H | (rw [hy341]; exact H) | exact H
                         have Ny341 := Aside0.mk hy341
                         clear hy341
                         by_cases c70 : x14_17 = true
                         · subst c70
                           have H1 : (if 0 ≤ (wrap64 (x11_1 + 1)) then (if (wrap64 (x11_1 + 1)) < (t332.length : Int) then ((goboref3_at.f (wrap64 ((rd t332 (wrap64 (x11_1 + 1))) - 1))).bind fun t345 => (if 0 ≤ (wrap64 ((y341.length : Int) - 1)) then (if (wrap64 ((y341.length : Int) - 1)) < (y341.length : Int) then (goboref3_pick.l0 kj62 l0 l1 a2 t332 (y341.set ((wrap64 ((y341.length : Int) - 1)) : Int).toNat (⟨(rd_T80 y341 (wrap64 ((y341.length : Int) - 1))).f0, t345⟩ : S80)) true (wrap64 (x11_1 + 1))) else (none)) else (none))) else (none)) else (none)) = some r := by rw [if_pos rfl] at H; exact H
                           clear H
                           have H := H1
                           clear H1
                           obtain ⟨ji71, hji71⟩ : ∃ j_ : Int, (wrap64 (x11_1 + 1)) = j_ := ⟨_, rfl⟩
                           replace H : (if 0 ≤ (ji71) then (if (ji71) < (t332.length : Int) then ((goboref3_at.f (wrap64 ((rd t332 (ji71)) - 1))).bind fun t345 => (if 0 ≤ (wrap64 ((y341.length : Int) - 1)) then (if (wrap64 ((y341.length : Int) - 1)) < (y341.length : Int) then (goboref3_pick.l0 kj62 l0 l1 a2 t332 (y341.set ((wrap64 ((y341.length : Int) - 1)) : Int).toNat (⟨(rd_T80 y341 (wrap64 ((y341.length : Int) - 1))).f0, t345⟩ : S80)) true ji71) else (none)) else (none))) else (none)) else (none)) = some r := by first | (rw [hji71] at H; exact H) | (simp only [hji71] at H ⊢; exact H)
                           (try rw [hji71] at c13b0)
                           (try rw [hji71] at A68)
                           have hji71w : (IntKind.i64.wrap (x11_1 + 1)) = ji71 := (i64_w _).trans hji71
                           by_cases c72 : 0 ≤ (ji71)
                           · rw [if_pos c72] at H
                             have c72b0 : decide (0 ≤ (ji71)) = true := decide_eq_true c72
                             clear c72
                             by_cases c73 : (ji71) < (t332.length : Int)
                             · rw [if_pos c73] at H
                               have c73b0 : decide ((ji71) < (t332.length : Int)) = true := decide_eq_true c73
                               clear c73
                               replace H := Option.bind_eq_some_iff.mp H
                               obtain ⟨t345, A740, H⟩ := H
                               replace H : (if 0 ≤ (wrap64 ((y341.length : Int) - 1)) then (if (wrap64 ((y341.length : Int) - 1)) < (y341.length : Int) then (goboref3_pick.l0 kj62 l0 l1 a2 t332 (y341.set ((wrap64 ((y341.length : Int) - 1)) : Int).toNat (⟨(rd_T80 y341 (wrap64 ((y341.length : Int) - 1))).f0, t345⟩ : S80)) true ji71) else (none)) else (none)) = some r := H
                               have A74 := Aside0.mk A740
                               clear A740
                               obtain ⟨ji75, hji75⟩ : ∃ j_ : Int, (wrap64 ((y341.length : Int) - 1)) = j_ := ⟨_, rfl⟩
                               replace H : (if 0 ≤ (ji75) then (if (ji75) < (y341.length : Int) then (goboref3_pick.l0 kj62 l0 l1 a2 t332 (y341.set ((ji75) : Int).toNat (⟨(rd_T80 y341 (ji75)).f0, t345⟩ : S80)) true ji71) else (none)) else (none)) = some r := by first | (rw [hji75] at H; exact H) | (simp only [hji75] at H ⊢; exact H)
                               (try rw [hji75] at A68)
                               (try rw [hji75] at A74)
                               have hji75w : (IntKind.i64.wrap ((y341.length : Int) - 1)) = ji75 := (i64_w _).trans hji75
                               by_cases c76 : 0 ≤ (ji75)
                               · rw [if_pos c76] at H
                                 have c76b0 : decide (0 ≤ (ji75)) = true := decide_eq_true c76
                                 clear c76
                                 by_cases c77 : (ji75) < (y341.length : Int)
                                 · rw [if_pos c77] at H
                                   have c77b0 : decide ((ji75) < (y341.length : Int)) = true := decide_eq_true c77
                                   clear c77
                                   obtain ⟨y346, hy346⟩ : ∃ y_ : List (S80), y_ = (y341.set ((ji75) : Int).toNat (⟨(rd_T80 y341 (ji75)).f0, t345⟩ : S80)) := ⟨_, rfl⟩
                                   replace H : (goboref3_pick.l0 kj62 l0 l1 a2 t332 y346 true ji71) = some r := by first | (rw [hy346]; with_reducible exact H) | (have H2_ := (Option.bind_some _ _).symm.trans H; rw [hy346]; with_reducible exact H2_) | (have H2_ := (Option.bind_some _ _).symm.trans H; with_reducible exact H2_) | with_reducible exact H | (rw [hy346]; exact H) | exact H
                                   have Ny346 := Aside0.mk hy346
                                   clear hy346
                                   have H' := Aside0.mk H
                                   clear H
                                   have p339 : 0 ≤ (x11_1 : Int) := of_decide_eq_true (by first | (with_reducible assumption) | assumption)
                                   have q339 : x11_1 < (t332.length : Int) := of_decide_eq_true (by first | (with_reducible assumption) | assumption)
                                   obtain ⟨ad339, e339, hx339_0⟩ := Kd.at_int (Kd.R_reads' HO_8.out).2.2 x11_1 p339 q339
                                   obtain rfl : ad335 = ad339 := (by injection e339)
                                   replace p339 := eq_true p339
                                   replace q339 := eq_true q339
                                   go_wp2_with (first | (go_at_call 94; (with_reducible refine (goboref3_at.calls (rd t332 x11_1) t340 _ A68.out).mono ?_); rintro e w' ⟨rfl, ⟨nd, rfl⟩⟩; (try first | exact ⟨rfl, _, World.drewN_drewN _ _ _⟩ | exact ⟨rfl, _, Eq.trans (World.drewN_drewN _ _ _) (congrArg (World.drewN _) (Nat.add_assoc _ _ _))⟩)) | ((with_reducible refine gate_builtin (b := .append) (xs := #[.tmp 87, .tmp 94]) rfl ?_); at_builtin; refine Kd.R_append k80 (w0 := w) w.heap.size rfl (.tmp 87) (.tmp 94) 35 80 (.agg #[(.int .i32 0), (.int .i32 0)]) 8 rfl Tryz.underlying35 info80 rfl (by decide) (by omega) u9 x9_1 (⟨t340, 0⟩ : S80) [.int .i32 t340, .int .i32 0] (fun _ => True) (fun _ => False) rfl rfl ?aP (fun _ hk => hk.elim) ?aF ?aO ?aB ?aS ?aL ?_; (case aP => exact k80_mkM _ _ _ (⟨t340, 0⟩ : S80)); (case aB => exact (by repeat (first | (with_reducible first | exact HB.out | apply below_alloc | apply pw_below_drewN | apply below_drew1) | exact HB.out))); (case aF => exact (fun _ _ => trivial)); (case aO => exact (by (with_reducible repeat (first | apply Kd.R_alloc | apply Kd.R_drewN | apply Kd.R_drew)); exact HO_9.out)); (case aS => exact (below_size (by repeat (first | (with_reducible first | exact HB.out | apply below_alloc | apply pw_below_drewN | apply below_drew1) | exact HB.out)))); (case aL => have := LMc69.out; omega); intro v342 w79 ho hb hg hat; rw [← Ny341.out] at ho; have n0_ := Aside0.mk (Kd.R_over' (by (with_reducible repeat (first | apply Kd.R_alloc | apply Kd.R_drewN | apply Kd.R_drew)); exact HO_8.out) (Kd.R_typed (by (with_reducible repeat (first | apply Kd.R_alloc | apply Kd.R_drewN | apply Kd.R_drew)); exact HO_9.out)) (by decide) hg); have n1_ := Aside0.mk (hb); have n2_ := Aside0.mk (ho); clear HO_8; clear HB; clear HO_9; have HO_8 := n0_; have HB := n1_; have HO343 := n2_; clear n0_ n1_ n2_; clear ho hb hg hat; obtain ⟨Ao80, co80, eo80⟩ := Kd.R_slice HO343.out; subst eo80; have p344 : 0 ≤ ((ji71) : Int) := of_decide_eq_true (by first | (with_reducible assumption) | assumption); have q344 : (ji71) < (t332.length : Int) := of_decide_eq_true (by first | (with_reducible assumption) | assumption); obtain ⟨ad344, e344, hx344_0⟩ := Kd.at_int (Kd.R_reads' HO_8.out).2.2 (ji71) p344 q344; obtain rfl : ad335 = ad344 := (by injection e344); replace p344 := eq_true p344; replace q344 := eq_true q344) | (go_at_call 94; (with_reducible refine (goboref3_at.calls (wrap64 ((rd t332 (ji71)) - 1)) t345 _ A74.out).mono ?_); rintro e w' ⟨rfl, ⟨nd, rfl⟩⟩; (try first | exact ⟨rfl, _, World.drewN_drewN _ _ _⟩ | exact ⟨rfl, _, Eq.trans (World.drewN_drewN _ _ _) (congrArg (World.drewN _) (Nat.add_assoc _ _ _))⟩); have p78 : 0 ≤ ((ji75) : Int) := of_decide_eq_true (by first | (with_reducible assumption) | assumption); have q78 : ((ji75) : Int) < ((y341.length : Int) : Int) := of_decide_eq_true (by first | (with_reducible assumption) | assumption); obtain ⟨go78, co78, eo78, gb78, gl78, cl78, HG78⟩ := Kd.R_form HO343.out (by omega); (first | cases eo78 | (injection eo78 with ea_ en_ ec_; (first | subst ea_ | (injection ea_ with ea_; subst ea_)); subst ec_; clear en_)); have GB78 := Aside0.mk gb78; have GG78 := Aside0.mk HG78; clear gb78 gl78 HG78; obtain ⟨ce78, hcl78, hM78, hcc78, hfr78⟩ := Kd.R_elem HO343.out z80 ((ji75) : Int) p78 q78; obtain rfl := k80_openM hM78; have hx78_0 : w79.cell? ⟨go78, ((ji75) : Int).toNat * 2, none⟩ = some (.int .i32 ((rd_T80 y341 (ji75)).f0)) := hcc78 0 _ rfl; have hx78_1 : w79.cell? ⟨go78, ((ji75) : Int).toNat * 2 + 1, none⟩ = some (.int .i32 ((rd_T80 y341 (ji75)).f1)) := hcc78 1 _ rfl; have hf78_0 : w79.frozen? ⟨go78, ((ji75) : Int).toNat * 2, none⟩ = false := hfr78 0; have hf78_1 : w79.frozen? ⟨go78, ((ji75) : Int).toNat * 2 + 1, none⟩ = false := hfr78 1; clear hcl78 hcc78 hfr78 hM78; replace p78 := eq_true p78; replace q78 := eq_true q78; have HX81 := Aside0.mk (show Kd.R k80 80 w79 w.heap.size (fun _ => True) (.slice (some ⟨go78, 0, none⟩) y341.length co80) y341 from (by (with_reducible repeat (first | apply Kd.R_alloc | apply Kd.R_drewN | apply Kd.R_drew)); exact HO343.out)); obtain ⟨ce81, hcl81, hM81, hcc81, hfr81⟩ := Kd.R_elem HX81.out z80 ((ji75) : Int) (of_decide_eq_true (by first | (with_reducible assumption) | assumption)) (by have h_ : ((ji75) : Int) < ((y341.length : Int) : Int) := of_decide_eq_true (by first | (with_reducible assumption) | assumption); first | exact h_ | (have e_ := (Kd.R_reads' HO343.out).1; omega) | simpa using h_); obtain rfl := k80_openM hM81; have HP81 := Kd.R_seg HX81.out ((ji75) : Int) (of_decide_eq_true (by first | (with_reducible assumption) | assumption)) (by have h_ : ((ji75) : Int) < ((y341.length : Int) : Int) := of_decide_eq_true (by first | (with_reducible assumption) | assumption); first | exact h_ | (have e_ := (Kd.R_reads' HO343.out).1; omega) | simpa using h_) (seg := [.int .i32 t345]) (j := 1) hcl81 hcc81 (show 2 ≤ 2 from by decide) (x' := (⟨(rd_T80 y341 (ji75)).f0, t345⟩ : S80)) (k80_mkM _ _ _ (⟨(rd_T80 y341 (ji75)).f0, t345⟩ : S80) ) (fun _ hk => hk); have hx81_1 := hcc81 1 _ rfl; (try simp only [show (k80).sz = 2 from rfl, Nat.mul_one, Nat.add_zero] at hx81_1); have hf81_1 := hfr81 1; (try simp only [show (k80).sz = 2 from rfl, Nat.mul_one, Nat.add_zero] at hf81_1); clear hcl81 hcc81 hfr81 hM81) | ((with_reducible refine gate_store (t := 21) (p := 109) rfl ?_); (try (rw [drewN_self w79]; generalize hq_ : World.drewN w79 _ = w79; have n0_ := Aside0.mk (Kd.R_at hq_ HO_8.out); have n1_ := Aside0.mk (Kd.R_at hq_ HO343.out); have n2_ := Aside0.mk (below_at hq_ HB.out); clear hq_ HO_8 HO343 HB; have HO_8 := n0_; have HO343 := n1_; have HB := n2_; clear n0_ n1_ n2_; (try (have HX81 := Aside0.mk (show Kd.R k80 80 w79 w.heap.size (fun _ => True) (.slice (some ⟨go78, 0, none⟩) y341.length co80) y341 from (by (with_reducible repeat (first | apply Kd.R_alloc | apply Kd.R_drewN | apply Kd.R_drew)); exact HO343.out)))); (try (obtain ⟨ce81, hcl81, hM81, hcc81, hfr81⟩ := Kd.R_elem HX81.out z80 ((ji75) : Int) (of_decide_eq_true (by first | (with_reducible assumption) | assumption)) (by have h_ : ((ji75) : Int) < ((y341.length : Int) : Int) := of_decide_eq_true (by first | (with_reducible assumption) | assumption); first | exact h_ | (have e_ := (Kd.R_reads' HO343.out).1; omega) | simpa using h_))); (try (obtain rfl := k80_openM hM81)); (try (have HP81 := Kd.R_seg HX81.out ((ji75) : Int) (of_decide_eq_true (by first | (with_reducible assumption) | assumption)) (by have h_ : ((ji75) : Int) < ((y341.length : Int) : Int) := of_decide_eq_true (by first | (with_reducible assumption) | assumption); first | exact h_ | (have e_ := (Kd.R_reads' HO343.out).1; omega) | simpa using h_) (seg := [.int .i32 t345]) (j := 1) hcl81 hcc81 (show 2 ≤ 2 from by decide) (x' := (⟨(rd_T80 y341 (ji75)).f0, t345⟩ : S80)) (k80_mkM _ _ _ (⟨(rd_T80 y341 (ji75)).f0, t345⟩ : S80) ) (fun _ hk => hk))); (try (have hx81_1 := hcc81 1 _ rfl)); (try (try simp only [show (k80).sz = 2 from rfl, Nat.mul_one, Nat.add_zero] at hx81_1)); (try (have hf81_1 := hfr81 1)); (try (try simp only [show (k80).sz = 2 from rfl, Nat.mul_one, Nat.add_zero] at hf81_1)); (try (clear hcl81 hcc81 hfr81 hM81)))); refine store_event (t := 21) (p := 109) (v := ?vo_w82) (w1 := (w79.setCell ⟨go78, ((ji75) : Int).toNat * 2 + 1, none⟩ (.int .i32 t345))) ?hg ?ho ?hn ?hr ?_; (case ho => rfl); (case hg => rfl); (case hn => rfl); (case hr => first | (go_simp; done) | (go_simp; rfl)); intro w82 hw; have hg : w79.grownBy w82 (some go78) := (by rw [hw]; exact HP81.2); have hp_ : Kd.R k80 80 w82 w.heap.size (fun _ => True) (.slice (some ⟨go78, 0, none⟩) y341.length co80) y346 := (by rw [hw, Ny346.out]; exact HP81.1); clear HP81; have n0_ := Aside0.mk (Kd.R_over' (v := (.slice (some ⟨go78, 0, none⟩) y341.length co80)) (by (with_reducible repeat (first | apply Kd.R_alloc | apply Kd.R_drewN | apply Kd.R_drew)); exact HO_8.out) (Kd.R_typed HO343.out) (by decide) hg); have n1_ := Aside0.mk (hp_); have n2_ := Aside0.mk ((by rw [hw]; exact below_set (HB.out) GB78.out : Below w.heap.size w w82)); clear HO_8; clear HO343; clear HB; have HO_8 := n0_; have HO343 := n1_; have HB := n2_; clear n0_ n1_ n2_; clear hg hw hp_))
                                   repeat (go_quiet (first | (go_at_call 94; (with_reducible refine (goboref3_at.calls (rd t332 x11_1) t340 _ A68.out).mono ?_); rintro e w' ⟨rfl, ⟨nd, rfl⟩⟩; (try first | exact ⟨rfl, _, World.drewN_drewN _ _ _⟩ | exact ⟨rfl, _, Eq.trans (World.drewN_drewN _ _ _) (congrArg (World.drewN _) (Nat.add_assoc _ _ _))⟩)) | ((with_reducible refine gate_builtin (b := .append) (xs := #[.tmp 87, .tmp 94]) rfl ?_); at_builtin; refine Kd.R_append k80 (w0 := w) w.heap.size rfl (.tmp 87) (.tmp 94) 35 80 (.agg #[(.int .i32 0), (.int .i32 0)]) 8 rfl Tryz.underlying35 info80 rfl (by decide) (by omega) u9 x9_1 (⟨t340, 0⟩ : S80) [.int .i32 t340, .int .i32 0] (fun _ => True) (fun _ => False) rfl rfl ?aP (fun _ hk => hk.elim) ?aF ?aO ?aB ?aS ?aL ?_; (case aP => exact k80_mkM _ _ _ (⟨t340, 0⟩ : S80)); (case aB => exact (by repeat (first | (with_reducible first | exact HB.out | apply below_alloc | apply pw_below_drewN | apply below_drew1) | exact HB.out))); (case aF => exact (fun _ _ => trivial)); (case aO => exact (by (with_reducible repeat (first | apply Kd.R_alloc | apply Kd.R_drewN | apply Kd.R_drew)); exact HO_9.out)); (case aS => exact (below_size (by repeat (first | (with_reducible first | exact HB.out | apply below_alloc | apply pw_below_drewN | apply below_drew1) | exact HB.out)))); (case aL => have := LMc69.out; omega); intro v342 w79 ho hb hg hat; rw [← Ny341.out] at ho; have n0_ := Aside0.mk (Kd.R_over' (by (with_reducible repeat (first | apply Kd.R_alloc | apply Kd.R_drewN | apply Kd.R_drew)); exact HO_8.out) (Kd.R_typed (by (with_reducible repeat (first | apply Kd.R_alloc | apply Kd.R_drewN | apply Kd.R_drew)); exact HO_9.out)) (by decide) hg); have n1_ := Aside0.mk (hb); have n2_ := Aside0.mk (ho); clear HO_8; clear HB; clear HO_9; have HO_8 := n0_; have HB := n1_; have HO343 := n2_; clear n0_ n1_ n2_; clear ho hb hg hat; obtain ⟨Ao80, co80, eo80⟩ := Kd.R_slice HO343.out; subst eo80; have p344 : 0 ≤ ((ji71) : Int) := of_decide_eq_true (by first | (with_reducible assumption) | assumption); have q344 : (ji71) < (t332.length : Int) := of_decide_eq_true (by first | (with_reducible assumption) | assumption); obtain ⟨ad344, e344, hx344_0⟩ := Kd.at_int (Kd.R_reads' HO_8.out).2.2 (ji71) p344 q344; obtain rfl : ad335 = ad344 := (by injection e344); replace p344 := eq_true p344; replace q344 := eq_true q344) | (go_at_call 94; (with_reducible refine (goboref3_at.calls (wrap64 ((rd t332 (ji71)) - 1)) t345 _ A74.out).mono ?_); rintro e w' ⟨rfl, ⟨nd, rfl⟩⟩; (first | exact ⟨rfl, _, World.drewN_drewN _ _ _⟩ | exact ⟨rfl, _, Eq.trans (World.drewN_drewN _ _ _) (congrArg (World.drewN _) (Nat.add_assoc _ _ _))⟩ | (have p78 : 0 ≤ ((ji75) : Int) := of_decide_eq_true (by first | (with_reducible assumption) | assumption); have q78 : ((ji75) : Int) < ((y341.length : Int) : Int) := of_decide_eq_true (by first | (with_reducible assumption) | assumption); obtain ⟨go78, co78, eo78, gb78, gl78, cl78, HG78⟩ := Kd.R_form HO343.out (by omega); (first | cases eo78 | (injection eo78 with ea_ en_ ec_; (first | subst ea_ | (injection ea_ with ea_; subst ea_)); subst ec_; clear en_)); have GB78 := Aside0.mk gb78; have GG78 := Aside0.mk HG78; clear gb78 gl78 HG78; obtain ⟨ce78, hcl78, hM78, hcc78, hfr78⟩ := Kd.R_elem HO343.out z80 ((ji75) : Int) p78 q78; obtain rfl := k80_openM hM78; have hx78_0 : w79.cell? ⟨go78, ((ji75) : Int).toNat * 2, none⟩ = some (.int .i32 ((rd_T80 y341 (ji75)).f0)) := hcc78 0 _ rfl; have hx78_1 : w79.cell? ⟨go78, ((ji75) : Int).toNat * 2 + 1, none⟩ = some (.int .i32 ((rd_T80 y341 (ji75)).f1)) := hcc78 1 _ rfl; have hf78_0 : w79.frozen? ⟨go78, ((ji75) : Int).toNat * 2, none⟩ = false := hfr78 0; have hf78_1 : w79.frozen? ⟨go78, ((ji75) : Int).toNat * 2 + 1, none⟩ = false := hfr78 1; clear hcl78 hcc78 hfr78 hM78; replace p78 := eq_true p78; replace q78 := eq_true q78; have HX81 := Aside0.mk (show Kd.R k80 80 w79 w.heap.size (fun _ => True) (.slice (some ⟨go78, 0, none⟩) y341.length co80) y341 from (by (with_reducible repeat (first | apply Kd.R_alloc | apply Kd.R_drewN | apply Kd.R_drew)); exact HO343.out)); obtain ⟨ce81, hcl81, hM81, hcc81, hfr81⟩ := Kd.R_elem HX81.out z80 ((ji75) : Int) (of_decide_eq_true (by first | (with_reducible assumption) | assumption)) (by have h_ : ((ji75) : Int) < ((y341.length : Int) : Int) := of_decide_eq_true (by first | (with_reducible assumption) | assumption); first | exact h_ | (have e_ := (Kd.R_reads' HO343.out).1; omega) | simpa using h_); obtain rfl := k80_openM hM81; have HP81 := Kd.R_seg HX81.out ((ji75) : Int) (of_decide_eq_true (by first | (with_reducible assumption) | assumption)) (by have h_ : ((ji75) : Int) < ((y341.length : Int) : Int) := of_decide_eq_true (by first | (with_reducible assumption) | assumption); first | exact h_ | (have e_ := (Kd.R_reads' HO343.out).1; omega) | simpa using h_) (seg := [.int .i32 t345]) (j := 1) hcl81 hcc81 (show 2 ≤ 2 from by decide) (x' := (⟨(rd_T80 y341 (ji75)).f0, t345⟩ : S80)) (k80_mkM _ _ _ (⟨(rd_T80 y341 (ji75)).f0, t345⟩ : S80) ) (fun _ hk => hk); have hx81_1 := hcc81 1 _ rfl; (try simp only [show (k80).sz = 2 from rfl, Nat.mul_one, Nat.add_zero] at hx81_1); have hf81_1 := hfr81 1; (try simp only [show (k80).sz = 2 from rfl, Nat.mul_one, Nat.add_zero] at hf81_1); clear hcl81 hcc81 hfr81 hM81) | ((with_reducible refine gate_store (t := 21) (p := 109) rfl ?_); (try (rw [drewN_self w79]; generalize hq_ : World.drewN w79 _ = w79; have n0_ := Aside0.mk (Kd.R_at hq_ HO_8.out); have n1_ := Aside0.mk (Kd.R_at hq_ HO343.out); have n2_ := Aside0.mk (below_at hq_ HB.out); clear hq_ HO_8 HO343 HB; have HO_8 := n0_; have HO343 := n1_; have HB := n2_; clear n0_ n1_ n2_; (try (have HX81 := Aside0.mk (show Kd.R k80 80 w79 w.heap.size (fun _ => True) (.slice (some ⟨go78, 0, none⟩) y341.length co80) y341 from (by (with_reducible repeat (first | apply Kd.R_alloc | apply Kd.R_drewN | apply Kd.R_drew)); exact HO343.out)))); (try (obtain ⟨ce81, hcl81, hM81, hcc81, hfr81⟩ := Kd.R_elem HX81.out z80 ((ji75) : Int) (of_decide_eq_true (by first | (with_reducible assumption) | assumption)) (by have h_ : ((ji75) : Int) < ((y341.length : Int) : Int) := of_decide_eq_true (by first | (with_reducible assumption) | assumption); first | exact h_ | (have e_ := (Kd.R_reads' HO343.out).1; omega) | simpa using h_))); (try (obtain rfl := k80_openM hM81)); (try (have HP81 := Kd.R_seg HX81.out ((ji75) : Int) (of_decide_eq_true (by first | (with_reducible assumption) | assumption)) (by have h_ : ((ji75) : Int) < ((y341.length : Int) : Int) := of_decide_eq_true (by first | (with_reducible assumption) | assumption); first | exact h_ | (have e_ := (Kd.R_reads' HO343.out).1; omega) | simpa using h_) (seg := [.int .i32 t345]) (j := 1) hcl81 hcc81 (show 2 ≤ 2 from by decide) (x' := (⟨(rd_T80 y341 (ji75)).f0, t345⟩ : S80)) (k80_mkM _ _ _ (⟨(rd_T80 y341 (ji75)).f0, t345⟩ : S80) ) (fun _ hk => hk))); (try (have hx81_1 := hcc81 1 _ rfl)); (try (try simp only [show (k80).sz = 2 from rfl, Nat.mul_one, Nat.add_zero] at hx81_1)); (try (have hf81_1 := hfr81 1)); (try (try simp only [show (k80).sz = 2 from rfl, Nat.mul_one, Nat.add_zero] at hf81_1)); (try (clear hcl81 hcc81 hfr81 hM81)))); refine store_event (t := 21) (p := 109) (v := ?vo_w82) (w1 := (w79.setCell ⟨go78, ((ji75) : Int).toNat * 2 + 1, none⟩ (.int .i32 t345))) ?hg ?ho ?hn ?hr ?_; (case ho => rfl); (case hg => rfl); (case hn => rfl); (case hr => first | (go_simp; done) | (go_simp; rfl)); intro w82 hw; have hg : w79.grownBy w82 (some go78) := (by rw [hw]; exact HP81.2); have hp_ : Kd.R k80 80 w82 w.heap.size (fun _ => True) (.slice (some ⟨go78, 0, none⟩) y341.length co80) y346 := (by rw [hw, Ny346.out]; exact HP81.1); clear HP81; have n0_ := Aside0.mk (Kd.R_over' (v := (.slice (some ⟨go78, 0, none⟩) y341.length co80)) (by (with_reducible repeat (first | apply Kd.R_alloc | apply Kd.R_drewN | apply Kd.R_drew)); exact HO_8.out) (Kd.R_typed HO343.out) (by decide) hg); have n1_ := Aside0.mk (hp_); have n2_ := Aside0.mk ((by rw [hw]; exact below_set (HB.out) GB78.out : Below w.heap.size w w82)); clear HO_8; clear HO343; clear HB; have HO_8 := n0_; have HO343 := n1_; have HB := n2_; clear n0_ n1_ n2_; clear hg hw hp_)); try go_wp2_with (first | (go_at_call 94; (with_reducible refine (goboref3_at.calls (rd t332 x11_1) t340 _ A68.out).mono ?_); rintro e w' ⟨rfl, ⟨nd, rfl⟩⟩; (try first | exact ⟨rfl, _, World.drewN_drewN _ _ _⟩ | exact ⟨rfl, _, Eq.trans (World.drewN_drewN _ _ _) (congrArg (World.drewN _) (Nat.add_assoc _ _ _))⟩)) | ((with_reducible refine gate_builtin (b := .append) (xs := #[.tmp 87, .tmp 94]) rfl ?_); at_builtin; refine Kd.R_append k80 (w0 := w) w.heap.size rfl (.tmp 87) (.tmp 94) 35 80 (.agg #[(.int .i32 0), (.int .i32 0)]) 8 rfl Tryz.underlying35 info80 rfl (by decide) (by omega) u9 x9_1 (⟨t340, 0⟩ : S80) [.int .i32 t340, .int .i32 0] (fun _ => True) (fun _ => False) rfl rfl ?aP (fun _ hk => hk.elim) ?aF ?aO ?aB ?aS ?aL ?_; (case aP => exact k80_mkM _ _ _ (⟨t340, 0⟩ : S80)); (case aB => exact (by repeat (first | (with_reducible first | exact HB.out | apply below_alloc | apply pw_below_drewN | apply below_drew1) | exact HB.out))); (case aF => exact (fun _ _ => trivial)); (case aO => exact (by (with_reducible repeat (first | apply Kd.R_alloc | apply Kd.R_drewN | apply Kd.R_drew)); exact HO_9.out)); (case aS => exact (below_size (by repeat (first | (with_reducible first | exact HB.out | apply below_alloc | apply pw_below_drewN | apply below_drew1) | exact HB.out)))); (case aL => have := LMc69.out; omega); intro v342 w79 ho hb hg hat; rw [← Ny341.out] at ho; have n0_ := Aside0.mk (Kd.R_over' (by (with_reducible repeat (first | apply Kd.R_alloc | apply Kd.R_drewN | apply Kd.R_drew)); exact HO_8.out) (Kd.R_typed (by (with_reducible repeat (first | apply Kd.R_alloc | apply Kd.R_drewN | apply Kd.R_drew)); exact HO_9.out)) (by decide) hg); have n1_ := Aside0.mk (hb); have n2_ := Aside0.mk (ho); clear HO_8; clear HB; clear HO_9; have HO_8 := n0_; have HB := n1_; have HO343 := n2_; clear n0_ n1_ n2_; clear ho hb hg hat; obtain ⟨Ao80, co80, eo80⟩ := Kd.R_slice HO343.out; subst eo80; have p344 : 0 ≤ ((ji71) : Int) := of_decide_eq_true (by first | (with_reducible assumption) | assumption); have q344 : (ji71) < (t332.length : Int) := of_decide_eq_true (by first | (with_reducible assumption) | assumption); obtain ⟨ad344, e344, hx344_0⟩ := Kd.at_int (Kd.R_reads' HO_8.out).2.2 (ji71) p344 q344; obtain rfl : ad335 = ad344 := (by injection e344); replace p344 := eq_true p344; replace q344 := eq_true q344))) | (go_at_call 94; (with_reducible refine (goboref3_at.calls (wrap64 ((rd t332 (ji71)) - 1)) t345 _ A74.out).mono ?_); rintro e w' ⟨rfl, ⟨nd, rfl⟩⟩; (try first | exact ⟨rfl, _, World.drewN_drewN _ _ _⟩ | exact ⟨rfl, _, Eq.trans (World.drewN_drewN _ _ _) (congrArg (World.drewN _) (Nat.add_assoc _ _ _))⟩); have p78 : 0 ≤ ((ji75) : Int) := of_decide_eq_true (by first | (with_reducible assumption) | assumption); have q78 : ((ji75) : Int) < ((y341.length : Int) : Int) := of_decide_eq_true (by first | (with_reducible assumption) | assumption); obtain ⟨go78, co78, eo78, gb78, gl78, cl78, HG78⟩ := Kd.R_form HO343.out (by omega); (first | cases eo78 | (injection eo78 with ea_ en_ ec_; (first | subst ea_ | (injection ea_ with ea_; subst ea_)); subst ec_; clear en_)); have GB78 := Aside0.mk gb78; have GG78 := Aside0.mk HG78; clear gb78 gl78 HG78; obtain ⟨ce78, hcl78, hM78, hcc78, hfr78⟩ := Kd.R_elem HO343.out z80 ((ji75) : Int) p78 q78; obtain rfl := k80_openM hM78; have hx78_0 : w79.cell? ⟨go78, ((ji75) : Int).toNat * 2, none⟩ = some (.int .i32 ((rd_T80 y341 (ji75)).f0)) := hcc78 0 _ rfl; have hx78_1 : w79.cell? ⟨go78, ((ji75) : Int).toNat * 2 + 1, none⟩ = some (.int .i32 ((rd_T80 y341 (ji75)).f1)) := hcc78 1 _ rfl; have hf78_0 : w79.frozen? ⟨go78, ((ji75) : Int).toNat * 2, none⟩ = false := hfr78 0; have hf78_1 : w79.frozen? ⟨go78, ((ji75) : Int).toNat * 2 + 1, none⟩ = false := hfr78 1; clear hcl78 hcc78 hfr78 hM78; replace p78 := eq_true p78; replace q78 := eq_true q78; have HX81 := Aside0.mk (show Kd.R k80 80 w79 w.heap.size (fun _ => True) (.slice (some ⟨go78, 0, none⟩) y341.length co80) y341 from (by (with_reducible repeat (first | apply Kd.R_alloc | apply Kd.R_drewN | apply Kd.R_drew)); exact HO343.out)); obtain ⟨ce81, hcl81, hM81, hcc81, hfr81⟩ := Kd.R_elem HX81.out z80 ((ji75) : Int) (of_decide_eq_true (by first | (with_reducible assumption) | assumption)) (by have h_ : ((ji75) : Int) < ((y341.length : Int) : Int) := of_decide_eq_true (by first | (with_reducible assumption) | assumption); first | exact h_ | (have e_ := (Kd.R_reads' HO343.out).1; omega) | simpa using h_); obtain rfl := k80_openM hM81; have HP81 := Kd.R_seg HX81.out ((ji75) : Int) (of_decide_eq_true (by first | (with_reducible assumption) | assumption)) (by have h_ : ((ji75) : Int) < ((y341.length : Int) : Int) := of_decide_eq_true (by first | (with_reducible assumption) | assumption); first | exact h_ | (have e_ := (Kd.R_reads' HO343.out).1; omega) | simpa using h_) (seg := [.int .i32 t345]) (j := 1) hcl81 hcc81 (show 2 ≤ 2 from by decide) (x' := (⟨(rd_T80 y341 (ji75)).f0, t345⟩ : S80)) (k80_mkM _ _ _ (⟨(rd_T80 y341 (ji75)).f0, t345⟩ : S80) ) (fun _ hk => hk); have hx81_1 := hcc81 1 _ rfl; (try simp only [show (k80).sz = 2 from rfl, Nat.mul_one, Nat.add_zero] at hx81_1); have hf81_1 := hfr81 1; (try simp only [show (k80).sz = 2 from rfl, Nat.mul_one, Nat.add_zero] at hf81_1); clear hcl81 hcc81 hfr81 hM81) | ((with_reducible refine gate_store (t := 21) (p := 109) rfl ?_); (try (rw [drewN_self w79]; generalize hq_ : World.drewN w79 _ = w79; have n0_ := Aside0.mk (Kd.R_at hq_ HO_8.out); have n1_ := Aside0.mk (Kd.R_at hq_ HO343.out); have n2_ := Aside0.mk (below_at hq_ HB.out); clear hq_ HO_8 HO343 HB; have HO_8 := n0_; have HO343 := n1_; have HB := n2_; clear n0_ n1_ n2_; (try (have HX81 := Aside0.mk (show Kd.R k80 80 w79 w.heap.size (fun _ => True) (.slice (some ⟨go78, 0, none⟩) y341.length co80) y341 from (by (with_reducible repeat (first | apply Kd.R_alloc | apply Kd.R_drewN | apply Kd.R_drew)); exact HO343.out)))); (try (obtain ⟨ce81, hcl81, hM81, hcc81, hfr81⟩ := Kd.R_elem HX81.out z80 ((ji75) : Int) (of_decide_eq_true (by first | (with_reducible assumption) | assumption)) (by have h_ : ((ji75) : Int) < ((y341.length : Int) : Int) := of_decide_eq_true (by first | (with_reducible assumption) | assumption); first | exact h_ | (have e_ := (Kd.R_reads' HO343.out).1; omega) | simpa using h_))); (try (obtain rfl := k80_openM hM81)); (try (have HP81 := Kd.R_seg HX81.out ((ji75) : Int) (of_decide_eq_true (by first | (with_reducible assumption) | assumption)) (by have h_ : ((ji75) : Int) < ((y341.length : Int) : Int) := of_decide_eq_true (by first | (with_reducible assumption) | assumption); first | exact h_ | (have e_ := (Kd.R_reads' HO343.out).1; omega) | simpa using h_) (seg := [.int .i32 t345]) (j := 1) hcl81 hcc81 (show 2 ≤ 2 from by decide) (x' := (⟨(rd_T80 y341 (ji75)).f0, t345⟩ : S80)) (k80_mkM _ _ _ (⟨(rd_T80 y341 (ji75)).f0, t345⟩ : S80) ) (fun _ hk => hk))); (try (have hx81_1 := hcc81 1 _ rfl)); (try (try simp only [show (k80).sz = 2 from rfl, Nat.mul_one, Nat.add_zero] at hx81_1)); (try (have hf81_1 := hfr81 1)); (try (try simp only [show (k80).sz = 2 from rfl, Nat.mul_one, Nat.add_zero] at hf81_1)); (try (clear hcl81 hcc81 hfr81 hM81)))); refine store_event (t := 21) (p := 109) (v := ?vo_w82) (w1 := (w79.setCell ⟨go78, ((ji75) : Int).toNat * 2 + 1, none⟩ (.int .i32 t345))) ?hg ?ho ?hn ?hr ?_; (case ho => rfl); (case hg => rfl); (case hn => rfl); (case hr => first | (go_simp; done) | (go_simp; rfl)); intro w82 hw; have hg : w79.grownBy w82 (some go78) := (by rw [hw]; exact HP81.2); have hp_ : Kd.R k80 80 w82 w.heap.size (fun _ => True) (.slice (some ⟨go78, 0, none⟩) y341.length co80) y346 := (by rw [hw, Ny346.out]; exact HP81.1); clear HP81; have n0_ := Aside0.mk (Kd.R_over' (v := (.slice (some ⟨go78, 0, none⟩) y341.length co80)) (by (with_reducible repeat (first | apply Kd.R_alloc | apply Kd.R_drewN | apply Kd.R_drew)); exact HO_8.out) (Kd.R_typed HO343.out) (by decide) hg); have n1_ := Aside0.mk (hp_); have n2_ := Aside0.mk ((by rw [hw]; exact below_set (HB.out) GB78.out : Below w.heap.size w w82)); clear HO_8; clear HO343; clear HB; have HO_8 := n0_; have HO343 := n1_; have HB := n2_; clear n0_ n1_ n2_; clear hg hw hp_)))
                                   go_roundg kj62
                                   case measure => have := HK1.out; have := HJ17.out; have := HJ62.out; omega
                                   case rel => exact ⟨(y346), (true), (ji71), (by first | rfl | (simp; done) | (simp [*]; done)), (by first | rfl | (simp; done) | (simp only [← hji71] <;> (first | rfl | simp)) | (simp [*]; done)), H', ⟨by have := HK1.out; have := HJ17.out; have := HJ62.out; omega⟩, ⟨by (with_reducible repeat (first | apply Kd.R_alloc | apply Kd.R_drewN | apply Kd.R_drew)); exact HO_8.out⟩, ⟨by (with_reducible repeat (first | apply Kd.R_alloc | apply Kd.R_drewN | apply Kd.R_drew)); exact HO343.out⟩, ⟨by repeat (first | (with_reducible first | exact HB.out | apply below_alloc | apply pw_below_drewN | apply below_drew1) | exact HB.out)⟩⟩
                                 · rw [if_neg c77] at H
                                   exact absurd H (by simp)
                               · rw [if_neg c76] at H
                                 exact absurd H (by simp)
                             · rw [if_neg c73] at H
                               exact absurd H (by simp)
                           · rw [if_neg c72] at H
                             exact absurd H (by simp)
                         · replace c70 := Bool.eq_false_iff.mpr c70
                           subst c70
                           have H1 : (goboref3_pick.l0 kj62 l0 l1 a2 t332 y341 false (wrap64 (x11_1 + 1))) = some r := by rw [if_neg (show ¬ (false = true) by decide)] at H; exact H
                           clear H
                           have H := H1
                           clear H1
                           have H' := Aside0.mk H
                           clear H
                           have p339 : 0 ≤ (x11_1 : Int) := of_decide_eq_true (by first | (with_reducible assumption) | assumption)
                           have q339 : x11_1 < (t332.length : Int) := of_decide_eq_true (by first | (with_reducible assumption) | assumption)
                           obtain ⟨ad339, e339, hx339_0⟩ := Kd.at_int (Kd.R_reads' HO_8.out).2.2 x11_1 p339 q339
                           obtain rfl : ad335 = ad339 := (by injection e339)
                           replace p339 := eq_true p339
                           replace q339 := eq_true q339
                           iterate 4 (try (go_wp2_with (first | (go_at_call 94; (with_reducible refine (goboref3_at.calls (rd t332 x11_1) t340 _ A68.out).mono ?_); rintro e w' ⟨rfl, ⟨nd, rfl⟩⟩; (try first | exact ⟨rfl, _, World.drewN_drewN _ _ _⟩ | exact ⟨rfl, _, Eq.trans (World.drewN_drewN _ _ _) (congrArg (World.drewN _) (Nat.add_assoc _ _ _))⟩)) | ((with_reducible refine gate_builtin (b := .append) (xs := #[.tmp 87, .tmp 94]) rfl ?_); at_builtin; refine Kd.R_append k80 (w0 := w) w.heap.size rfl (.tmp 87) (.tmp 94) 35 80 (.agg #[(.int .i32 0), (.int .i32 0)]) 8 rfl Tryz.underlying35 info80 rfl (by decide) (by omega) u9 x9_1 (⟨t340, 0⟩ : S80) [.int .i32 t340, .int .i32 0] (fun _ => True) (fun _ => False) rfl rfl ?aP (fun _ hk => hk.elim) ?aF ?aO ?aB ?aS ?aL ?_; (case aP => exact k80_mkM _ _ _ (⟨t340, 0⟩ : S80)); (case aB => exact (by repeat (first | (with_reducible first | exact HB.out | apply below_alloc | apply pw_below_drewN | apply below_drew1) | exact HB.out))); (case aF => exact (fun _ _ => trivial)); (case aO => exact (by (with_reducible repeat (first | apply Kd.R_alloc | apply Kd.R_drewN | apply Kd.R_drew)); exact HO_9.out)); (case aS => exact (below_size (by repeat (first | (with_reducible first | exact HB.out | apply below_alloc | apply pw_below_drewN | apply below_drew1) | exact HB.out)))); (case aL => have := LMc69.out; omega); intro v342 w83 ho hb hg hat; rw [← Ny341.out] at ho; have n0_ := Aside0.mk (Kd.R_over' (by (with_reducible repeat (first | apply Kd.R_alloc | apply Kd.R_drewN | apply Kd.R_drew)); exact HO_8.out) (Kd.R_typed (by (with_reducible repeat (first | apply Kd.R_alloc | apply Kd.R_drewN | apply Kd.R_drew)); exact HO_9.out)) (by decide) hg); have n1_ := Aside0.mk (hb); have n2_ := Aside0.mk (ho); clear HO_8; clear HB; clear HO_9; have HO_8 := n0_; have HB := n1_; have HO343 := n2_; clear n0_ n1_ n2_; clear ho hb hg hat))); try (go_quiet (fail)))
                           go_roundg kj62
                           case measure => have := HK1.out; have := HJ17.out; have := HJ62.out; omega
                           case rel => exact ⟨(y341), (false), (wrap64 (x11_1 + 1)), (by first | rfl | (simp; done) | (simp [*]; done)), (by first | rfl | (simp; done) | (simp [*]; done)), H', ⟨by have := HK1.out; have := HJ17.out; have := HJ62.out; omega⟩, ⟨by (with_reducible repeat (first | apply Kd.R_alloc | apply Kd.R_drewN | apply Kd.R_drew)); exact HO_8.out⟩, ⟨by (with_reducible repeat (first | apply Kd.R_alloc | apply Kd.R_drewN | apply Kd.R_drew)); exact HO343.out⟩, ⟨by repeat (first | (with_reducible first | exact HB.out | apply below_alloc | apply pw_below_drewN | apply below_drew1) | exact HB.out)⟩⟩
                       · rw [if_neg c69] at H
                         exact absurd H (by simp)
                     · rw [if_neg c67] at H
                       exact absurd H (by simp)
                   · rw [if_neg c66] at H
                     exact absurd H (by simp)
                 · replace c65 := Bool.eq_false_iff.mpr c65
                   subst c65
                   have H1 : (if x14_17 = true then (if 0 ≤ (wrap64 (x11_1 + 1)) then (if (wrap64 (x11_1 + 1)) < (t332.length : Int) then ((goboref3_at.f (wrap64 ((rd t332 (wrap64 (x11_1 + 1))) - 1))).bind fun t348 => (if 0 ≤ (wrap64 ((x9_1.length : Int) - 1)) then (if (wrap64 ((x9_1.length : Int) - 1)) < (x9_1.length : Int) then (goboref3_pick.l0 kj62 l0 l1 a2 t332 (x9_1.set ((wrap64 ((x9_1.length : Int) - 1)) : Int).toNat (⟨(rd_T80 x9_1 (wrap64 ((x9_1.length : Int) - 1))).f0, t348⟩ : S80)) x14_17 (wrap64 (x11_1 + 1))) else (none)) else (none))) else (none)) else (none)) else (goboref3_pick.l0 kj62 l0 l1 a2 t332 x9_1 x14_17 (wrap64 (x11_1 + 1)))) = some r := by rw [if_neg (show ¬ (false = true) by decide)] at H; exact H
                   clear H
                   have H := H1
                   clear H1
                   by_cases c84 : x14_17 = true
                   · subst c84
                     have H1 : (if 0 ≤ (wrap64 (x11_1 + 1)) then (if (wrap64 (x11_1 + 1)) < (t332.length : Int) then ((goboref3_at.f (wrap64 ((rd t332 (wrap64 (x11_1 + 1))) - 1))).bind fun t348 => (if 0 ≤ (wrap64 ((x9_1.length : Int) - 1)) then (if (wrap64 ((x9_1.length : Int) - 1)) < (x9_1.length : Int) then (goboref3_pick.l0 kj62 l0 l1 a2 t332 (x9_1.set ((wrap64 ((x9_1.length : Int) - 1)) : Int).toNat (⟨(rd_T80 x9_1 (wrap64 ((x9_1.length : Int) - 1))).f0, t348⟩ : S80)) true (wrap64 (x11_1 + 1))) else (none)) else (none))) else (none)) else (none)) = some r := by rw [if_pos rfl] at H; exact H
                     clear H
                     have H := H1
                     clear H1
                     obtain ⟨ji85, hji85⟩ : ∃ j_ : Int, (wrap64 (x11_1 + 1)) = j_ := ⟨_, rfl⟩
                     replace H : (if 0 ≤ (ji85) then (if (ji85) < (t332.length : Int) then ((goboref3_at.f (wrap64 ((rd t332 (ji85)) - 1))).bind fun t348 => (if 0 ≤ (wrap64 ((x9_1.length : Int) - 1)) then (if (wrap64 ((x9_1.length : Int) - 1)) < (x9_1.length : Int) then (goboref3_pick.l0 kj62 l0 l1 a2 t332 (x9_1.set ((wrap64 ((x9_1.length : Int) - 1)) : Int).toNat (⟨(rd_T80 x9_1 (wrap64 ((x9_1.length : Int) - 1))).f0, t348⟩ : S80)) true ji85) else (none)) else (none))) else (none)) else (none)) = some r := by first | (rw [hji85] at H; exact H) | (simp only [hji85] at H ⊢; exact H)
                     (try rw [hji85] at c13b0)
                     have hji85w : (IntKind.i64.wrap (x11_1 + 1)) = ji85 := (i64_w _).trans hji85
                     by_cases c86 : 0 ≤ (ji85)
                     · rw [if_pos c86] at H
                       have c86b0 : decide (0 ≤ (ji85)) = true := decide_eq_true c86
                       clear c86
                       by_cases c87 : (ji85) < (t332.length : Int)
                       · rw [if_pos c87] at H
                         have c87b0 : decide ((ji85) < (t332.length : Int)) = true := decide_eq_true c87
                         clear c87
                         replace H := Option.bind_eq_some_iff.mp H
                         obtain ⟨t348, A880, H⟩ := H
                         replace H : (if 0 ≤ (wrap64 ((x9_1.length : Int) - 1)) then (if (wrap64 ((x9_1.length : Int) - 1)) < (x9_1.length : Int) then (goboref3_pick.l0 kj62 l0 l1 a2 t332 (x9_1.set ((wrap64 ((x9_1.length : Int) - 1)) : Int).toNat (⟨(rd_T80 x9_1 (wrap64 ((x9_1.length : Int) - 1))).f0, t348⟩ : S80)) true ji85) else (none)) else (none)) = some r := H
                         have A88 := Aside0.mk A880
                         clear A880
                         obtain ⟨ji89, hji89⟩ : ∃ j_ : Int, (wrap64 ((x9_1.length : Int) - 1)) = j_ := ⟨_, rfl⟩
                         replace H : (if 0 ≤ (ji89) then (if (ji89) < (x9_1.length : Int) then (goboref3_pick.l0 kj62 l0 l1 a2 t332 (x9_1.set ((ji89) : Int).toNat (⟨(rd_T80 x9_1 (ji89)).f0, t348⟩ : S80)) true ji85) else (none)) else (none)) = some r := by first | (rw [hji89] at H; exact H) | (simp only [hji89] at H ⊢; exact H)
                         (try rw [hji89] at A88)
                         have hji89w : (IntKind.i64.wrap ((x9_1.length : Int) - 1)) = ji89 := (i64_w _).trans hji89
                         by_cases c90 : 0 ≤ (ji89)
                         · rw [if_pos c90] at H
                           have c90b0 : decide (0 ≤ (ji89)) = true := decide_eq_true c90
                           clear c90
                           by_cases c91 : (ji89) < (x9_1.length : Int)
                           · rw [if_pos c91] at H
                             have c91b0 : decide ((ji89) < (x9_1.length : Int)) = true := decide_eq_true c91
                             clear c91
                             obtain ⟨y349, hy349⟩ : ∃ y_ : List (S80), y_ = (x9_1.set ((ji89) : Int).toNat (⟨(rd_T80 x9_1 (ji89)).f0, t348⟩ : S80)) := ⟨_, rfl⟩
                             replace H : (goboref3_pick.l0 kj62 l0 l1 a2 t332 y349 true ji85) = some r := by first | (rw [hy349]; with_reducible exact H) | (have H2_ := (Option.bind_some _ _).symm.trans H; rw [hy349]; with_reducible exact H2_) | (have H2_ := (Option.bind_some _ _).symm.trans H; with_reducible exact H2_) | with_reducible exact H | (rw [hy349]; exact H) | exact H
                             have Ny349 := Aside0.mk hy349
                             clear hy349
                             have H' := Aside0.mk H
                             clear H
                             obtain ⟨Ao93, co93, eo93⟩ := Kd.R_slice HO_9.out
                             subst eo93
                             have p347 : 0 ≤ ((ji85) : Int) := of_decide_eq_true (by first | (with_reducible assumption) | assumption)
                             have q347 : (ji85) < (t332.length : Int) := of_decide_eq_true (by first | (with_reducible assumption) | assumption)
                             obtain ⟨ad347, e347, hx347_0⟩ := Kd.at_int (Kd.R_reads' HO_8.out).2.2 (ji85) p347 q347
                             obtain rfl : ad335 = ad347 := (by injection e347)
                             replace p347 := eq_true p347
                             replace q347 := eq_true q347
                             iterate 4 (try (go_wp2_with (first | (go_at_call 94; (with_reducible refine (goboref3_at.calls (wrap64 ((rd t332 (ji85)) - 1)) t348 _ A88.out).mono ?_); rintro e w' ⟨rfl, ⟨nd, rfl⟩⟩; (try first | exact ⟨rfl, _, World.drewN_drewN _ _ _⟩ | exact ⟨rfl, _, Eq.trans (World.drewN_drewN _ _ _) (congrArg (World.drewN _) (Nat.add_assoc _ _ _))⟩); have p92 : 0 ≤ ((ji89) : Int) := of_decide_eq_true (by first | (with_reducible assumption) | assumption); have q92 : ((ji89) : Int) < ((x9_1.length : Int) : Int) := of_decide_eq_true (by first | (with_reducible assumption) | assumption); obtain ⟨go92, co92, eo92, gb92, gl92, cl92, HG92⟩ := Kd.R_form HO_9.out (by omega); (first | cases eo92 | (injection eo92 with ea_ en_ ec_; (first | subst ea_ | (injection ea_ with ea_; subst ea_)); subst ec_; clear en_)); have GB92 := Aside0.mk gb92; have GG92 := Aside0.mk HG92; clear gb92 gl92 HG92; obtain ⟨ce92, hcl92, hM92, hcc92, hfr92⟩ := Kd.R_elem HO_9.out z80 ((ji89) : Int) p92 q92; obtain rfl := k80_openM hM92; have hx92_0 : wc.cell? ⟨go92, ((ji89) : Int).toNat * 2, none⟩ = some (.int .i32 ((rd_T80 x9_1 (ji89)).f0)) := hcc92 0 _ rfl; have hx92_1 : wc.cell? ⟨go92, ((ji89) : Int).toNat * 2 + 1, none⟩ = some (.int .i32 ((rd_T80 x9_1 (ji89)).f1)) := hcc92 1 _ rfl; have hf92_0 : wc.frozen? ⟨go92, ((ji89) : Int).toNat * 2, none⟩ = false := hfr92 0; have hf92_1 : wc.frozen? ⟨go92, ((ji89) : Int).toNat * 2 + 1, none⟩ = false := hfr92 1; clear hcl92 hcc92 hfr92 hM92; replace p92 := eq_true p92; replace q92 := eq_true q92; have HX94 := Aside0.mk (show Kd.R k80 80 wc w.heap.size (fun _ => True) (.slice (some ⟨go92, 0, none⟩) x9_1.length co93) x9_1 from (by (with_reducible repeat (first | apply Kd.R_alloc | apply Kd.R_drewN | apply Kd.R_drew)); exact HO_9.out)); obtain ⟨ce94, hcl94, hM94, hcc94, hfr94⟩ := Kd.R_elem HX94.out z80 ((ji89) : Int) (of_decide_eq_true (by first | (with_reducible assumption) | assumption)) (by have h_ : ((ji89) : Int) < ((x9_1.length : Int) : Int) := of_decide_eq_true (by first | (with_reducible assumption) | assumption); first | exact h_ | (have e_ := (Kd.R_reads' HO_9.out).1; omega) | simpa using h_); obtain rfl := k80_openM hM94; have HP94 := Kd.R_seg HX94.out ((ji89) : Int) (of_decide_eq_true (by first | (with_reducible assumption) | assumption)) (by have h_ : ((ji89) : Int) < ((x9_1.length : Int) : Int) := of_decide_eq_true (by first | (with_reducible assumption) | assumption); first | exact h_ | (have e_ := (Kd.R_reads' HO_9.out).1; omega) | simpa using h_) (seg := [.int .i32 t348]) (j := 1) hcl94 hcc94 (show 2 ≤ 2 from by decide) (x' := (⟨(rd_T80 x9_1 (ji89)).f0, t348⟩ : S80)) (k80_mkM _ _ _ (⟨(rd_T80 x9_1 (ji89)).f0, t348⟩ : S80) ) (fun _ hk => hk); have hx94_1 := hcc94 1 _ rfl; (try simp only [show (k80).sz = 2 from rfl, Nat.mul_one, Nat.add_zero] at hx94_1); have hf94_1 := hfr94 1; (try simp only [show (k80).sz = 2 from rfl, Nat.mul_one, Nat.add_zero] at hf94_1); clear hcl94 hcc94 hfr94 hM94) | ((with_reducible refine gate_store (t := 21) (p := 109) rfl ?_); (try (rw [drewN_self wc]; generalize hq_ : World.drewN wc _ = wc; have n0_ := Aside0.mk (Kd.R_at hq_ HO_8.out); have n1_ := Aside0.mk (Kd.R_at hq_ HO_9.out); have n2_ := Aside0.mk (below_at hq_ HB.out); clear hq_ HO_8 HO_9 HB; have HO_8 := n0_; have HO_9 := n1_; have HB := n2_; clear n0_ n1_ n2_; (try (have HX94 := Aside0.mk (show Kd.R k80 80 wc w.heap.size (fun _ => True) (.slice (some ⟨go92, 0, none⟩) x9_1.length co93) x9_1 from (by (with_reducible repeat (first | apply Kd.R_alloc | apply Kd.R_drewN | apply Kd.R_drew)); exact HO_9.out)))); (try (obtain ⟨ce94, hcl94, hM94, hcc94, hfr94⟩ := Kd.R_elem HX94.out z80 ((ji89) : Int) (of_decide_eq_true (by first | (with_reducible assumption) | assumption)) (by have h_ : ((ji89) : Int) < ((x9_1.length : Int) : Int) := of_decide_eq_true (by first | (with_reducible assumption) | assumption); first | exact h_ | (have e_ := (Kd.R_reads' HO_9.out).1; omega) | simpa using h_))); (try (obtain rfl := k80_openM hM94)); (try (have HP94 := Kd.R_seg HX94.out ((ji89) : Int) (of_decide_eq_true (by first | (with_reducible assumption) | assumption)) (by have h_ : ((ji89) : Int) < ((x9_1.length : Int) : Int) := of_decide_eq_true (by first | (with_reducible assumption) | assumption); first | exact h_ | (have e_ := (Kd.R_reads' HO_9.out).1; omega) | simpa using h_) (seg := [.int .i32 t348]) (j := 1) hcl94 hcc94 (show 2 ≤ 2 from by decide) (x' := (⟨(rd_T80 x9_1 (ji89)).f0, t348⟩ : S80)) (k80_mkM _ _ _ (⟨(rd_T80 x9_1 (ji89)).f0, t348⟩ : S80) ) (fun _ hk => hk))); (try (have hx94_1 := hcc94 1 _ rfl)); (try (try simp only [show (k80).sz = 2 from rfl, Nat.mul_one, Nat.add_zero] at hx94_1)); (try (have hf94_1 := hfr94 1)); (try (try simp only [show (k80).sz = 2 from rfl, Nat.mul_one, Nat.add_zero] at hf94_1)); (try (clear hcl94 hcc94 hfr94 hM94)))); refine store_event (t := 21) (p := 109) (v := ?vo_w95) (w1 := (wc.setCell ⟨go92, ((ji89) : Int).toNat * 2 + 1, none⟩ (.int .i32 t348))) ?hg ?ho ?hn ?hr ?_; (case ho => rfl); (case hg => rfl); (case hn => rfl); (case hr => first | (go_simp; done) | (go_simp; rfl)); intro w95 hw; have hg : wc.grownBy w95 (some go92) := (by rw [hw]; exact HP94.2); have hp_ : Kd.R k80 80 w95 w.heap.size (fun _ => True) (.slice (some ⟨go92, 0, none⟩) x9_1.length co93) y349 := (by rw [hw, Ny349.out]; exact HP94.1); clear HP94; have n0_ := Aside0.mk (Kd.R_over' (v := (.slice (some ⟨go92, 0, none⟩) x9_1.length co93)) (by (with_reducible repeat (first | apply Kd.R_alloc | apply Kd.R_drewN | apply Kd.R_drew)); exact HO_8.out) (Kd.R_typed HO_9.out) (by decide) hg); have n1_ := Aside0.mk (hp_); have n2_ := Aside0.mk ((by rw [hw]; exact below_set (HB.out) GB92.out : Below w.heap.size w w95)); clear HO_8; clear HO_9; clear HB; have HO_8 := n0_; have HO_9 := n1_; have HB := n2_; clear n0_ n1_ n2_; clear hg hw hp_))); try (go_quiet (fail)))
                             go_roundg kj62
                             case measure => have := HK1.out; have := HJ17.out; have := HJ62.out; omega
                             case rel => exact ⟨(y349), (true), (ji85), (by first | rfl | (simp; done) | (simp [*]; done)), (by first | rfl | (simp; done) | (simp only [← hji85] <;> (first | rfl | simp)) | (simp [*]; done)), H', ⟨by have := HK1.out; have := HJ17.out; have := HJ62.out; omega⟩, ⟨by (with_reducible repeat (first | apply Kd.R_alloc | apply Kd.R_drewN | apply Kd.R_drew)); exact HO_8.out⟩, ⟨by (with_reducible repeat (first | apply Kd.R_alloc | apply Kd.R_drewN | apply Kd.R_drew)); exact HO_9.out⟩, ⟨by repeat (first | (with_reducible first | exact HB.out | apply below_alloc | apply pw_below_drewN | apply below_drew1) | exact HB.out)⟩⟩
                           · rw [if_neg c91] at H
                             exact absurd H (by simp)
                         · rw [if_neg c90] at H
                           exact absurd H (by simp)
                       · rw [if_neg c87] at H
                         exact absurd H (by simp)
                     · rw [if_neg c86] at H
                       exact absurd H (by simp)
                   · replace c84 := Bool.eq_false_iff.mpr c84
                     subst c84
                     have H1 : (goboref3_pick.l0 kj62 l0 l1 a2 t332 x9_1 false (wrap64 (x11_1 + 1))) = some r := by rw [if_neg (show ¬ (false = true) by decide)] at H; exact H
                     clear H
                     have H := H1
                     clear H1
                     have H' := Aside0.mk H
                     clear H
                     go_wp2
                     repeat (go_quiet (fail); try go_wp2)
                     go_roundg kj62
                     case measure => have := HK1.out; have := HJ17.out; have := HJ62.out; omega
                     case rel => exact ⟨(x9_1), (false), (wrap64 (x11_1 + 1)), (by first | rfl | (simp; done) | (simp [*]; done)), (by first | rfl | (simp; done) | (simp [*]; done)), H', ⟨by have := HK1.out; have := HJ17.out; have := HJ62.out; omega⟩, ⟨by (with_reducible repeat (first | apply Kd.R_alloc | apply Kd.R_drewN | apply Kd.R_drew)); exact HO_8.out⟩, ⟨by (with_reducible repeat (first | apply Kd.R_alloc | apply Kd.R_drewN | apply Kd.R_drew)); exact HO_9.out⟩, ⟨by repeat (first | (with_reducible first | exact HB.out | apply below_alloc | apply pw_below_drewN | apply below_drew1) | exact HB.out)⟩⟩
           · rw [if_neg c15] at H
             exact absurd H (by simp)
         · rw [if_neg c14] at H
           exact absurd H (by simp)
       · rw [if_neg c13] at H
         have c13b0 : decide ((wrap64 (x11_1 + 1)) < (t332.length : Int)) = false := decide_eq_false c13
         clear c13
         obtain rfl := Option.some.inj H
         obtain ⟨Ao96, co96, eo96⟩ := Kd.R_slice HO_8.out
         subst eo96
         go_wp2
         repeat (go_quiet (fail); try go_wp2)
         go_ret
         exact ⟨_, by first | rfl | (simp [errW_none, errW_some] <;> rfl) | (simp [*, errW_none, errW_some] <;> rfl), by (with_reducible repeat (first | apply Kd.R_alloc | apply Kd.R_drewN | apply Kd.R_drew)); exact HO_9.out, by repeat (first | (with_reducible first | exact HB.out | apply below_alloc | apply pw_below_drewN | apply below_drew1) | exact HB.out)⟩
   · rw [if_neg c5] at H
     exact absurd H (by simp)
 · rw [if_neg c4] at H
   exact absurd H (by simp)
end Go.Proofs.YthdfmbmbjpmlaaaGreatDoor.Rn
end
section
namespace Go.Proofs.YthdfmbmbjpmlaaaGreatDoor.Rn
open Go.RowKit Go.Proofs.YthdfmbmbjpmlaaaGreatDoorW.PrintWords Go.Proofs.YthdfmbmbjpmlaaaGreatDoorW.PrintLast Go.Proofs.YthdfmbmbjpmlaaaGreatDoorW.PrintMore
attribute [local go_sem] max2_int min2_int max_two min_two max_three min_three max_four min_four   -- for this text's walks alone
set_option linter.unusedVariables false
set_option linter.unusedSimpArgs false
mutual
def goboref3_cells.l0 : Nat → List (S80) → List (S114) → Int → Option ((List (S114)))
 | 0, _, _, _ => none
 | k + 1, x0, x3, x4 => if x4 < (x0.length : Int) then (if 0 ≤ x4 then (if ((rd_T80 x0 x4).f0) > ((rd_T80 x0 x4).f1) then (goboref3_cells.j1 k x0 x3 x4 true) else (if ((rd_T80 x0 x4).f1) < 0 then (goboref3_cells.j1 k x0 x3 x4 true) else (goboref3_cells.j1 k x0 x3 x4 (decide (((rd_T80 x0 x4).f0) > 1114111))))) else (none)) else (some x3)
def goboref3_cells.j1 : Nat → List (S80) → List (S114) → Int → Bool → Option ((List (S114)))
 | 0, _, _, _, _ => none
 | k + 1, x0, x3, x4, x39 => if x39 = true then (goboref3_cells.l0 k x0 x3 (wrap64 (x4 + 1))) else (if 0 ≤ x4 then (if x4 < (x0.length : Int) then ((goboref3_place.f k (wrap64 ((rd_T80 x0 x4).f0)) true).bind fun t355 => ((goboref3_place.f k (wrap64 ((rd_T80 x0 x4).f1)) false).bind fun t357 => (if t355 < (wrap64 (t357 + 1)) then (if x3.length < 8796093022208 then (goboref3_cells.l0 k x0 (x3 ++ [(⟨t355, wrap64 (t357 + 1)⟩ : S114)]) (wrap64 (x4 + 1))) else (none)) else (goboref3_cells.l0 k x0 x3 (wrap64 (x4 + 1)))))) else (none)) else (none))
end
def goboref3_cells.f (k : Nat) (l0 : List (S80)) : Option ((List (S114))) := goboref3_cells.l0 k l0 ([] : List (S114)) 0
theorem goboref3_cells.mono_l : ∀ k, (∀ y0 y1 y2, LeO (goboref3_cells.l0 k y0 y1 y2) (goboref3_cells.l0 (k + 1) y0 y1 y2)) ∧ (∀ y0 y1 y2 y3, LeO (goboref3_cells.j1 k y0 y1 y2 y3) (goboref3_cells.j1 (k + 1) y0 y1 y2 y3))
 | 0 => ⟨fun _ _ _ r h => by simp [goboref3_cells.l0] at h, fun _ _ _ _ r h => by simp [goboref3_cells.j1] at h⟩
 | k + 1 => by
  obtain ⟨ih0, ih1⟩ := goboref3_cells.mono_l k
  refine ⟨?_, ?_⟩
  · intro y0 y1 y2
    unfold goboref3_cells.l0
    repeat' first
    | (with_reducible exact ih0 _ _ _)
    | (with_reducible exact ih1 _ _ _ _)
    | (with_reducible exact goboref3_place.mono _ _ _)
    | (with_reducible exact LeO.refl _)
    | (with_reducible exact LeO.none _)
    | (with_reducible refine LeO.ite ?_ ?_)
    | (with_reducible refine LeO.bind ?_ (fun _ => ?_))
    | exact ih0 _ _ _
    | exact ih1 _ _ _ _
    | exact goboref3_place.mono _ _ _
    | exact LeO.none _
    | refine LeO.ite ?_ ?_
    | refine LeO.bind ?_ (fun _ => ?_)
  · intro y0 y1 y2 y3
    unfold goboref3_cells.j1
    repeat' first
    | (with_reducible exact ih0 _ _ _)
    | (with_reducible exact ih1 _ _ _ _)
    | (with_reducible exact goboref3_place.mono _ _ _)
    | (with_reducible exact LeO.refl _)
    | (with_reducible exact LeO.none _)
    | (with_reducible refine LeO.ite ?_ ?_)
    | (with_reducible refine LeO.bind ?_ (fun _ => ?_))
    | exact ih0 _ _ _
    | exact ih1 _ _ _ _
    | exact goboref3_place.mono _ _ _
    | exact LeO.none _
    | refine LeO.ite ?_ ?_
    | refine LeO.bind ?_ (fun _ => ?_)
theorem goboref3_cells.mono : ∀ a0 k, LeO (goboref3_cells.f k a0) (goboref3_cells.f (k + 1) a0) := by
 intro a0 k
 obtain ⟨ih0, ih1⟩ := goboref3_cells.mono_l k
 unfold goboref3_cells.f
 repeat' first
  | (with_reducible exact ih0 _ _ _)
  | (with_reducible exact ih1 _ _ _ _)
  | (with_reducible exact goboref3_place.mono _ _ _)
  | (with_reducible exact LeO.refl _)
  | (with_reducible exact LeO.none _)
  | (with_reducible refine LeO.ite ?_ ?_)
  | (with_reducible refine LeO.bind ?_ (fun _ => ?_))
  | exact ih0 _ _ _
  | exact ih1 _ _ _ _
  | exact goboref3_place.mono _ _ _
  | exact LeO.none _
  | refine LeO.ite ?_ ?_
  | refine LeO.bind ?_ (fun _ => ?_)
set_option maxHeartbeats 8000000 in
set_option maxRecDepth 100000 in
theorem goboref3_cells.calls (k : Nat) (A0 : Option Addr) (c0 : Nat) (l0 : List (S80)) (r : List (S114)) (w : World) (hr0 : Kd.C k80 w A0 l0.length l0) (hc0 : l0.length ≤ c0) (h : goboref3_cells.f k l0 = some r) :
 Calls Tryz.prog 89 #[.slice A0 l0.length c0] w fun e w' => ∃ v0_ : Value, e = .returned (v0_) ∧ Kd.R k114 114 w' w.heap.size (fun _ => True) v0_ r ∧ Below w.heap.size w w' := by
 have hu114 := Tryz.underlying114
 have HR0 := Aside0.mk hr0
 have HC0 := Aside0.mk hc0
 clear hr0 hc0
 have HB := Aside0.mk (Below.refl w.heap.size w)
 have H : (goboref3_cells.l0 k l0 ([] : List (S114)) 0) = some r := h
 clear h
 have H' := Aside0.mk H
 clear H
 go_enter Tryz.func89, Tryz.ntmps89
 go_wp2
 repeat (go_quiet (fail); try go_wp2)
 go_loopg [3, 4] k (fun kq v3 v4 w' => ∃ (x3_1 : List (S114)) (x4_1 : Int), v4 = .int .i64 x4_1 ∧ Aside0 (goboref3_cells.l0 kq l0 x3_1 x4_1 = some r) ∧ Aside0 (kq ≤ k) ∧ Aside0 (Kd.R k114 114 w' w.heap.size (fun _ => True) v3 x3_1) ∧ Aside0 (Below w.heap.size w w'))
 case atStart => exact ⟨(([] : List (S114))), (0), (by first | rfl | (simp; done) | (simp [*]; done)), H', ⟨Nat.le_refl _⟩, ⟨by first | exact Kd.R_nil _ _ _ _ _ | exact Kd.N_nil _ _ _ _ _ | exact Kd.V_nil _ _ _ _ _ | exact Kd.Q_nil _ _ _ _ _ | exact Kd.S_nil _ _ _ _ _⟩, ⟨by repeat (first | (with_reducible first | exact HB.out | apply below_alloc | apply pw_below_drewN | apply below_drew1) | exact HB.out)⟩⟩
 case round =>
  clear H'
  obtain ⟨x3_1, x4_1, rfl, HA, HK1, HO_3, HB⟩ := hrel
  cases gk with
  | zero => exact absurd HA.out (by simp [goboref3_cells.l0])
  | succ k1 =>
   have H := HA.out
   clear HA
   simp only [goboref3_cells.l0] at H
   by_cases c2 : x4_1 < (l0.length : Int)
   · rw [if_pos c2] at H
     have c2b0 : decide (x4_1 < (l0.length : Int)) = true := decide_eq_true c2
     clear c2
     have HC3 := Aside0.mk H
     clear H
     go_upto_region 5 with (fail)
     repeat (go_quiet (fail); go_upto_region 5 with (fail))
     go_cut [39] (fun v39 wc => ∃ (kq : Nat) (x39_2 : Bool), v39 = .bool x39_2 ∧ Aside0 (goboref3_cells.j1 kq l0 x3_1 x4_1 x39_2 = some r) ∧ Aside0 (kq ≤ k1) ∧ Aside0 (Kd.R k114 114 wc w.heap.size (fun _ => True) u3 x3_1) ∧ Aside0 (Below w.heap.size w wc))
     case first =>
      have H := HC3.out
      clear HC3
      by_cases c4 : 0 ≤ x4_1
      · rw [if_pos c4] at H
        have c4b0 : decide (0 ≤ x4_1) = true := decide_eq_true c4
        clear c4
        (first | rw [c4b0] | (simp only [i64_w, i32_w]; rw [c4b0]) | skip)
        by_cases c5 : ((rd_T80 l0 x4_1).f0) > ((rd_T80 l0 x4_1).f1)
        · rw [if_pos c5] at H
          have c5b0 : decide (((rd_T80 l0 x4_1).f1) < ((rd_T80 l0 x4_1).f0)) = true := decide_eq_true c5
          clear c5
          have H' := Aside0.mk H
          clear H
          have p350 : 0 ≤ (x4_1 : Int) := of_decide_eq_true (by first | (with_reducible assumption) | assumption)
          have q350 : x4_1 < (l0.length : Int) := of_decide_eq_true (by first | (with_reducible assumption) | assumption)
          obtain ⟨ad350, e350, hx350_0, hx350_1⟩ := at_T80 HR0.out x4_1 p350 q350
          cases e350
          replace hx350_0 := (HB.out.cell (World.block_lt_of_cell? w _ hx350_0)).trans hx350_0
          replace hx350_1 := (HB.out.cell (World.block_lt_of_cell? w _ hx350_1)).trans hx350_1
          replace p350 := eq_true p350
          replace q350 := eq_true q350
          have p351 : 0 ≤ (x4_1 : Int) := of_decide_eq_true (by first | (with_reducible assumption) | assumption)
          have q351 : x4_1 < (l0.length : Int) := of_decide_eq_true (by first | (with_reducible assumption) | assumption)
          obtain ⟨ad351, e351, hx351_0, hx351_1⟩ := at_T80 HR0.out x4_1 p351 q351
          obtain rfl : ad350 = ad351 := (by injection e351)
          replace hx351_0 := (HB.out.cell (World.block_lt_of_cell? w _ hx351_0)).trans hx351_0
          replace hx351_1 := (HB.out.cell (World.block_lt_of_cell? w _ hx351_1)).trans hx351_1
          replace p351 := eq_true p351
          replace q351 := eq_true q351
          go_wp2
          repeat (go_quiet (fail); try go_wp2)
          go_meet
          case rel => exact ⟨_, (true), (by first | rfl | (simp; done) | (simp [*]; done)), H', ⟨by have := HK1.out; first | omega | exact Nat.le_refl _⟩, ⟨by (with_reducible repeat (first | apply Kd.R_alloc | apply Kd.R_drewN | apply Kd.R_drew)); exact HO_3.out⟩, ⟨by repeat (first | (with_reducible first | exact HB.out | apply below_alloc | apply pw_below_drewN | apply below_drew1) | exact HB.out)⟩⟩
        · rw [if_neg c5] at H
          have c5b0 : decide (((rd_T80 l0 x4_1).f1) < ((rd_T80 l0 x4_1).f0)) = false := decide_eq_false c5
          clear c5
          by_cases c6 : ((rd_T80 l0 x4_1).f1) < 0
          · rw [if_pos c6] at H
            have c6b0 : decide (((rd_T80 l0 x4_1).f1) < 0) = true := decide_eq_true c6
            clear c6
            have H' := Aside0.mk H
            clear H
            have p350 : 0 ≤ (x4_1 : Int) := of_decide_eq_true (by first | (with_reducible assumption) | assumption)
            have q350 : x4_1 < (l0.length : Int) := of_decide_eq_true (by first | (with_reducible assumption) | assumption)
            obtain ⟨ad350, e350, hx350_0, hx350_1⟩ := at_T80 HR0.out x4_1 p350 q350
            cases e350
            replace hx350_0 := (HB.out.cell (World.block_lt_of_cell? w _ hx350_0)).trans hx350_0
            replace hx350_1 := (HB.out.cell (World.block_lt_of_cell? w _ hx350_1)).trans hx350_1
            replace p350 := eq_true p350
            replace q350 := eq_true q350
            have p351 : 0 ≤ (x4_1 : Int) := of_decide_eq_true (by first | (with_reducible assumption) | assumption)
            have q351 : x4_1 < (l0.length : Int) := of_decide_eq_true (by first | (with_reducible assumption) | assumption)
            obtain ⟨ad351, e351, hx351_0, hx351_1⟩ := at_T80 HR0.out x4_1 p351 q351
            obtain rfl : ad350 = ad351 := (by injection e351)
            replace hx351_0 := (HB.out.cell (World.block_lt_of_cell? w _ hx351_0)).trans hx351_0
            replace hx351_1 := (HB.out.cell (World.block_lt_of_cell? w _ hx351_1)).trans hx351_1
            replace p351 := eq_true p351
            replace q351 := eq_true q351
            have p352 : 0 ≤ (x4_1 : Int) := of_decide_eq_true (by first | (with_reducible assumption) | assumption)
            have q352 : x4_1 < (l0.length : Int) := of_decide_eq_true (by first | (with_reducible assumption) | assumption)
            obtain ⟨ad352, e352, hx352_0, hx352_1⟩ := at_T80 HR0.out x4_1 p352 q352
            obtain rfl : ad350 = ad352 := (by injection e352)
            replace hx352_0 := (HB.out.cell (World.block_lt_of_cell? w _ hx352_0)).trans hx352_0
            replace hx352_1 := (HB.out.cell (World.block_lt_of_cell? w _ hx352_1)).trans hx352_1
            replace p352 := eq_true p352
            replace q352 := eq_true q352
            go_wp2
            repeat (go_quiet (fail); try go_wp2)
            go_meet
            case rel => exact ⟨_, (true), (by first | rfl | (simp; done) | (simp [*]; done)), H', ⟨by have := HK1.out; first | omega | exact Nat.le_refl _⟩, ⟨by (with_reducible repeat (first | apply Kd.R_alloc | apply Kd.R_drewN | apply Kd.R_drew)); exact HO_3.out⟩, ⟨by repeat (first | (with_reducible first | exact HB.out | apply below_alloc | apply pw_below_drewN | apply below_drew1) | exact HB.out)⟩⟩
          · rw [if_neg c6] at H
            have c6b0 : decide (((rd_T80 l0 x4_1).f1) < 0) = false := decide_eq_false c6
            clear c6
            have H' := Aside0.mk H
            clear H
            have p350 : 0 ≤ (x4_1 : Int) := of_decide_eq_true (by first | (with_reducible assumption) | assumption)
            have q350 : x4_1 < (l0.length : Int) := of_decide_eq_true (by first | (with_reducible assumption) | assumption)
            obtain ⟨ad350, e350, hx350_0, hx350_1⟩ := at_T80 HR0.out x4_1 p350 q350
            cases e350
            replace hx350_0 := (HB.out.cell (World.block_lt_of_cell? w _ hx350_0)).trans hx350_0
            replace hx350_1 := (HB.out.cell (World.block_lt_of_cell? w _ hx350_1)).trans hx350_1
            replace p350 := eq_true p350
            replace q350 := eq_true q350
            have p351 : 0 ≤ (x4_1 : Int) := of_decide_eq_true (by first | (with_reducible assumption) | assumption)
            have q351 : x4_1 < (l0.length : Int) := of_decide_eq_true (by first | (with_reducible assumption) | assumption)
            obtain ⟨ad351, e351, hx351_0, hx351_1⟩ := at_T80 HR0.out x4_1 p351 q351
            obtain rfl : ad350 = ad351 := (by injection e351)
            replace hx351_0 := (HB.out.cell (World.block_lt_of_cell? w _ hx351_0)).trans hx351_0
            replace hx351_1 := (HB.out.cell (World.block_lt_of_cell? w _ hx351_1)).trans hx351_1
            replace p351 := eq_true p351
            replace q351 := eq_true q351
            have p352 : 0 ≤ (x4_1 : Int) := of_decide_eq_true (by first | (with_reducible assumption) | assumption)
            have q352 : x4_1 < (l0.length : Int) := of_decide_eq_true (by first | (with_reducible assumption) | assumption)
            obtain ⟨ad352, e352, hx352_0, hx352_1⟩ := at_T80 HR0.out x4_1 p352 q352
            obtain rfl : ad350 = ad352 := (by injection e352)
            replace hx352_0 := (HB.out.cell (World.block_lt_of_cell? w _ hx352_0)).trans hx352_0
            replace hx352_1 := (HB.out.cell (World.block_lt_of_cell? w _ hx352_1)).trans hx352_1
            replace p352 := eq_true p352
            replace q352 := eq_true q352
            have p353 : 0 ≤ (x4_1 : Int) := of_decide_eq_true (by first | (with_reducible assumption) | assumption)
            have q353 : x4_1 < (l0.length : Int) := of_decide_eq_true (by first | (with_reducible assumption) | assumption)
            obtain ⟨ad353, e353, hx353_0, hx353_1⟩ := at_T80 HR0.out x4_1 p353 q353
            obtain rfl : ad350 = ad353 := (by injection e353)
            replace hx353_0 := (HB.out.cell (World.block_lt_of_cell? w _ hx353_0)).trans hx353_0
            replace hx353_1 := (HB.out.cell (World.block_lt_of_cell? w _ hx353_1)).trans hx353_1
            replace p353 := eq_true p353
            replace q353 := eq_true q353
            go_wp2
            repeat (go_quiet (fail); try go_wp2)
            go_meet
            case rel => exact ⟨_, (decide (((rd_T80 l0 x4_1).f0) > 1114111)), (by first | rfl | (simp; done) | (simp [*]; done)), H', ⟨by have := HK1.out; first | omega | exact Nat.le_refl _⟩, ⟨by (with_reducible repeat (first | apply Kd.R_alloc | apply Kd.R_drewN | apply Kd.R_drew)); exact HO_3.out⟩, ⟨by repeat (first | (with_reducible first | exact HB.out | apply below_alloc | apply pw_below_drewN | apply below_drew1) | exact HB.out)⟩⟩
      · rw [if_neg c4] at H
        exact absurd H (by simp)
     case rest =>
      clear HC3
      try clear c2
      try clear c2b0
      obtain ⟨kq, x39_2, rfl, HA, HJ2, HO_3, HB⟩ := hcut
      cases kq with
      | zero => exact absurd HA.out (by simp [goboref3_cells.j1])
      | succ kj2 =>
       have H := HA.out
       clear HA
       simp only [goboref3_cells.j1] at H
       by_cases c7 : x39_2 = true
       · subst c7
         have H1 : (goboref3_cells.l0 kj2 l0 x3_1 (wrap64 (x4_1 + 1))) = some r := by rw [if_pos rfl] at H; exact H
         clear H
         have H := H1
         clear H1
         have H' := Aside0.mk H
         clear H
         go_wp2
         repeat (go_quiet (fail); try go_wp2)
         go_roundg kj2
         case measure => have := HK1.out; have := HJ2.out; omega
         case rel => exact ⟨(x3_1), (wrap64 (x4_1 + 1)), (by first | rfl | (simp; done) | (simp [*]; done)), H', ⟨by have := HK1.out; have := HJ2.out; omega⟩, ⟨by (with_reducible repeat (first | apply Kd.R_alloc | apply Kd.R_drewN | apply Kd.R_drew)); exact HO_3.out⟩, ⟨by repeat (first | (with_reducible first | exact HB.out | apply below_alloc | apply pw_below_drewN | apply below_drew1) | exact HB.out)⟩⟩
       · replace c7 := Bool.eq_false_iff.mpr c7
         subst c7
         have H1 : (if 0 ≤ x4_1 then (if x4_1 < (l0.length : Int) then ((goboref3_place.f kj2 (wrap64 ((rd_T80 l0 x4_1).f0)) true).bind fun t355 => ((goboref3_place.f kj2 (wrap64 ((rd_T80 l0 x4_1).f1)) false).bind fun t357 => (if t355 < (wrap64 (t357 + 1)) then (if x3_1.length < 8796093022208 then (goboref3_cells.l0 kj2 l0 (x3_1 ++ [(⟨t355, wrap64 (t357 + 1)⟩ : S114)]) (wrap64 (x4_1 + 1))) else (none)) else (goboref3_cells.l0 kj2 l0 x3_1 (wrap64 (x4_1 + 1)))))) else (none)) else (none)) = some r := by rw [if_neg (show ¬ (false = true) by decide)] at H; exact H
         clear H
         have H := H1
         clear H1
         by_cases c8 : 0 ≤ x4_1
         · rw [if_pos c8] at H
           have c8b0 : decide (0 ≤ x4_1) = true := decide_eq_true c8
           clear c8
           by_cases c9 : x4_1 < (l0.length : Int)
           · rw [if_pos c9] at H
             have c9b0 : decide (x4_1 < (l0.length : Int)) = true := decide_eq_true c9
             clear c9
             replace H := Option.bind_eq_some_iff.mp H
             obtain ⟨t355, A100, H⟩ := H
             replace H : ((goboref3_place.f kj2 (wrap64 ((rd_T80 l0 x4_1).f1)) false).bind fun t357 => (if t355 < (wrap64 (t357 + 1)) then (if x3_1.length < 8796093022208 then (goboref3_cells.l0 kj2 l0 (x3_1 ++ [(⟨t355, wrap64 (t357 + 1)⟩ : S114)]) (wrap64 (x4_1 + 1))) else (none)) else (goboref3_cells.l0 kj2 l0 x3_1 (wrap64 (x4_1 + 1))))) = some r := H
             have A10 := Aside0.mk A100
             clear A100
             replace H := Option.bind_eq_some_iff.mp H
             obtain ⟨t357, A110, H⟩ := H
             replace H : (if t355 < (wrap64 (t357 + 1)) then (if x3_1.length < 8796093022208 then (goboref3_cells.l0 kj2 l0 (x3_1 ++ [(⟨t355, wrap64 (t357 + 1)⟩ : S114)]) (wrap64 (x4_1 + 1))) else (none)) else (goboref3_cells.l0 kj2 l0 x3_1 (wrap64 (x4_1 + 1)))) = some r := H
             have A11 := Aside0.mk A110
             clear A110
             by_cases c12 : t355 < (wrap64 (t357 + 1))
             · rw [if_pos c12] at H
               have c12b0 : decide (t355 < (wrap64 (t357 + 1))) = true := decide_eq_true c12
               clear c12
               by_cases c13 : x3_1.length < 8796093022208
               · rw [if_pos c13] at H
                 have LMc13 := Aside0.mk c13
                 clear c13
                 obtain ⟨y358, hy358⟩ : ∃ y_ : List (S114), y_ = (x3_1 ++ [(⟨t355, wrap64 (t357 + 1)⟩ : S114)]) := ⟨_, rfl⟩
                 replace H : (goboref3_cells.l0 kj2 l0 y358 (wrap64 (x4_1 + 1))) = some r := by first | (rw [hy358]; with_reducible exact H) | (have H2_ := (Option.bind_some _ _).symm.trans H; rw [hy358]; with_reducible exact H2_) | (have H2_ := (Option.bind_some _ _).symm.trans H; with_reducible exact H2_) | with_reducible exact H | (rw [hy358]; exact H) | exact H
                 have Ny358 := Aside0.mk hy358
                 clear hy358
                 have H' := Aside0.mk H
                 clear H
                 have p354 : 0 ≤ (x4_1 : Int) := of_decide_eq_true (by first | (with_reducible assumption) | assumption)
                 have q354 : x4_1 < (l0.length : Int) := of_decide_eq_true (by first | (with_reducible assumption) | assumption)
                 obtain ⟨ad354, e354, hx354_0, hx354_1⟩ := at_T80 HR0.out x4_1 p354 q354
                 cases e354
                 replace hx354_0 := (HB.out.cell (World.block_lt_of_cell? w _ hx354_0)).trans hx354_0
                 replace hx354_1 := (HB.out.cell (World.block_lt_of_cell? w _ hx354_1)).trans hx354_1
                 replace p354 := eq_true p354
                 replace q354 := eq_true q354
                 iterate 4 (try (go_wp2_with (first | (go_at_call 95; (with_reducible refine (goboref3_place.calls kj2 (wrap64 ((rd_T80 l0 x4_1).f0)) true t355 _ A10.out).mono ?_); rintro e w' ⟨rfl, ⟨nd, rfl⟩⟩; (first | exact ⟨rfl, _, World.drewN_drewN _ _ _⟩ | exact ⟨rfl, _, Eq.trans (World.drewN_drewN _ _ _) (congrArg (World.drewN _) (Nat.add_assoc _ _ _))⟩ | (have p356 : 0 ≤ (x4_1 : Int) := of_decide_eq_true (by first | (with_reducible assumption) | assumption); have q356 : x4_1 < (l0.length : Int) := of_decide_eq_true (by first | (with_reducible assumption) | assumption); obtain ⟨ad356, e356, hx356_0, hx356_1⟩ := at_T80 HR0.out x4_1 p356 q356; obtain rfl : ad354 = ad356 := (by injection e356); replace hx356_0 := (HB.out.cell (World.block_lt_of_cell? w _ hx356_0)).trans hx356_0; replace hx356_1 := (HB.out.cell (World.block_lt_of_cell? w _ hx356_1)).trans hx356_1; replace p356 := eq_true p356; replace q356 := eq_true q356))) | (go_at_call 95; (with_reducible refine (goboref3_place.calls kj2 (wrap64 ((rd_T80 l0 x4_1).f1)) false t357 _ A11.out).mono ?_); rintro e w' ⟨rfl, ⟨nd, rfl⟩⟩; (try first | exact ⟨rfl, _, World.drewN_drewN _ _ _⟩ | exact ⟨rfl, _, Eq.trans (World.drewN_drewN _ _ _) (congrArg (World.drewN _) (Nat.add_assoc _ _ _))⟩)) | ((with_reducible refine gate_builtin (b := .append) (xs := #[.tmp 58, .tmp 62]) rfl ?_); at_builtin; refine Kd.R_append k114 (w0 := w) w.heap.size rfl (.tmp 58) (.tmp 62) 108 114 (.agg #[(.int .i64 0), (.int .i64 0)]) 16 rfl Tryz.underlying108 info114 rfl (by decide) (by omega) u3 x3_1 (⟨t355, wrap64 (t357 + 1)⟩ : S114) [.int .i64 t355, .int .i64 (wrap64 (t357 + 1))] (fun _ => True) (fun _ => False) rfl rfl ?aP (fun _ hk => hk.elim) ?aF ?aO ?aB ?aS ?aL ?_; (case aP => exact k114_mkM _ _ _ (⟨t355, wrap64 (t357 + 1)⟩ : S114)); (case aB => exact (by repeat (first | (with_reducible first | exact HB.out | apply below_alloc | apply pw_below_drewN | apply below_drew1) | exact HB.out))); (case aF => exact (fun _ _ => trivial)); (case aO => exact (by (with_reducible repeat (first | apply Kd.R_alloc | apply Kd.R_drewN | apply Kd.R_drew)); exact HO_3.out)); (case aS => exact (below_size (by repeat (first | (with_reducible first | exact HB.out | apply below_alloc | apply pw_below_drewN | apply below_drew1) | exact HB.out)))); (case aL => have := LMc13.out; omega); intro v359 w14 ho hb hg hat; rw [← Ny358.out] at ho; have n0_ := Aside0.mk (hb); have n1_ := Aside0.mk (ho); clear HB; clear HO_3; have HB := n0_; have HO360 := n1_; clear n0_ n1_; clear ho hb hg hat))); try (go_quiet (first | (go_at_call 95; (with_reducible refine (goboref3_place.calls kj2 (wrap64 ((rd_T80 l0 x4_1).f0)) true t355 _ A10.out).mono ?_); rintro e w' ⟨rfl, ⟨nd, rfl⟩⟩; (first | exact ⟨rfl, _, World.drewN_drewN _ _ _⟩ | exact ⟨rfl, _, Eq.trans (World.drewN_drewN _ _ _) (congrArg (World.drewN _) (Nat.add_assoc _ _ _))⟩ | (have p356 : 0 ≤ (x4_1 : Int) := of_decide_eq_true (by first | (with_reducible assumption) | assumption); have q356 : x4_1 < (l0.length : Int) := of_decide_eq_true (by first | (with_reducible assumption) | assumption); obtain ⟨ad356, e356, hx356_0, hx356_1⟩ := at_T80 HR0.out x4_1 p356 q356; obtain rfl : ad354 = ad356 := (by injection e356); replace hx356_0 := (HB.out.cell (World.block_lt_of_cell? w _ hx356_0)).trans hx356_0; replace hx356_1 := (HB.out.cell (World.block_lt_of_cell? w _ hx356_1)).trans hx356_1; replace p356 := eq_true p356; replace q356 := eq_true q356))) | (go_at_call 95; (with_reducible refine (goboref3_place.calls kj2 (wrap64 ((rd_T80 l0 x4_1).f1)) false t357 _ A11.out).mono ?_); rintro e w' ⟨rfl, ⟨nd, rfl⟩⟩; (try first | exact ⟨rfl, _, World.drewN_drewN _ _ _⟩ | exact ⟨rfl, _, Eq.trans (World.drewN_drewN _ _ _) (congrArg (World.drewN _) (Nat.add_assoc _ _ _))⟩)) | ((with_reducible refine gate_builtin (b := .append) (xs := #[.tmp 58, .tmp 62]) rfl ?_); at_builtin; refine Kd.R_append k114 (w0 := w) w.heap.size rfl (.tmp 58) (.tmp 62) 108 114 (.agg #[(.int .i64 0), (.int .i64 0)]) 16 rfl Tryz.underlying108 info114 rfl (by decide) (by omega) u3 x3_1 (⟨t355, wrap64 (t357 + 1)⟩ : S114) [.int .i64 t355, .int .i64 (wrap64 (t357 + 1))] (fun _ => True) (fun _ => False) rfl rfl ?aP (fun _ hk => hk.elim) ?aF ?aO ?aB ?aS ?aL ?_; (case aP => exact k114_mkM _ _ _ (⟨t355, wrap64 (t357 + 1)⟩ : S114)); (case aB => exact (by repeat (first | (with_reducible first | exact HB.out | apply below_alloc | apply pw_below_drewN | apply below_drew1) | exact HB.out))); (case aF => exact (fun _ _ => trivial)); (case aO => exact (by (with_reducible repeat (first | apply Kd.R_alloc | apply Kd.R_drewN | apply Kd.R_drew)); exact HO_3.out)); (case aS => exact (below_size (by repeat (first | (with_reducible first | exact HB.out | apply below_alloc | apply pw_below_drewN | apply below_drew1) | exact HB.out)))); (case aL => have := LMc13.out; omega); intro v359 w14 ho hb hg hat; rw [← Ny358.out] at ho; have n0_ := Aside0.mk (hb); have n1_ := Aside0.mk (ho); clear HB; clear HO_3; have HB := n0_; have HO360 := n1_; clear n0_ n1_; clear ho hb hg hat))))
                 go_roundg kj2
                 case measure => have := HK1.out; have := HJ2.out; omega
                 case rel => exact ⟨(y358), (wrap64 (x4_1 + 1)), (by first | rfl | (simp; done) | (simp [*]; done)), H', ⟨by have := HK1.out; have := HJ2.out; omega⟩, ⟨by (with_reducible repeat (first | apply Kd.R_alloc | apply Kd.R_drewN | apply Kd.R_drew)); exact HO360.out⟩, ⟨by repeat (first | (with_reducible first | exact HB.out | apply below_alloc | apply pw_below_drewN | apply below_drew1) | exact HB.out)⟩⟩
               · rw [if_neg c13] at H
                 exact absurd H (by simp)
             · rw [if_neg c12] at H
               have c12b0 : decide (t355 < (wrap64 (t357 + 1))) = false := decide_eq_false c12
               clear c12
               have H' := Aside0.mk H
               clear H
               have p354 : 0 ≤ (x4_1 : Int) := of_decide_eq_true (by first | (with_reducible assumption) | assumption)
               have q354 : x4_1 < (l0.length : Int) := of_decide_eq_true (by first | (with_reducible assumption) | assumption)
               obtain ⟨ad354, e354, hx354_0, hx354_1⟩ := at_T80 HR0.out x4_1 p354 q354
               cases e354
               replace hx354_0 := (HB.out.cell (World.block_lt_of_cell? w _ hx354_0)).trans hx354_0
               replace hx354_1 := (HB.out.cell (World.block_lt_of_cell? w _ hx354_1)).trans hx354_1
               replace p354 := eq_true p354
               replace q354 := eq_true q354
               iterate 4 (try (go_wp2_with (first | (go_at_call 95; (with_reducible refine (goboref3_place.calls kj2 (wrap64 ((rd_T80 l0 x4_1).f0)) true t355 _ A10.out).mono ?_); rintro e w' ⟨rfl, ⟨nd, rfl⟩⟩; (first | exact ⟨rfl, _, World.drewN_drewN _ _ _⟩ | exact ⟨rfl, _, Eq.trans (World.drewN_drewN _ _ _) (congrArg (World.drewN _) (Nat.add_assoc _ _ _))⟩ | (have p356 : 0 ≤ (x4_1 : Int) := of_decide_eq_true (by first | (with_reducible assumption) | assumption); have q356 : x4_1 < (l0.length : Int) := of_decide_eq_true (by first | (with_reducible assumption) | assumption); obtain ⟨ad356, e356, hx356_0, hx356_1⟩ := at_T80 HR0.out x4_1 p356 q356; obtain rfl : ad354 = ad356 := (by injection e356); replace hx356_0 := (HB.out.cell (World.block_lt_of_cell? w _ hx356_0)).trans hx356_0; replace hx356_1 := (HB.out.cell (World.block_lt_of_cell? w _ hx356_1)).trans hx356_1; replace p356 := eq_true p356; replace q356 := eq_true q356))) | (go_at_call 95; (with_reducible refine (goboref3_place.calls kj2 (wrap64 ((rd_T80 l0 x4_1).f1)) false t357 _ A11.out).mono ?_); rintro e w' ⟨rfl, ⟨nd, rfl⟩⟩; (try first | exact ⟨rfl, _, World.drewN_drewN _ _ _⟩ | exact ⟨rfl, _, Eq.trans (World.drewN_drewN _ _ _) (congrArg (World.drewN _) (Nat.add_assoc _ _ _))⟩)))); try (go_quiet (first | (go_at_call 95; (with_reducible refine (goboref3_place.calls kj2 (wrap64 ((rd_T80 l0 x4_1).f0)) true t355 _ A10.out).mono ?_); rintro e w' ⟨rfl, ⟨nd, rfl⟩⟩; (first | exact ⟨rfl, _, World.drewN_drewN _ _ _⟩ | exact ⟨rfl, _, Eq.trans (World.drewN_drewN _ _ _) (congrArg (World.drewN _) (Nat.add_assoc _ _ _))⟩ | (have p356 : 0 ≤ (x4_1 : Int) := of_decide_eq_true (by first | (with_reducible assumption) | assumption); have q356 : x4_1 < (l0.length : Int) := of_decide_eq_true (by first | (with_reducible assumption) | assumption); obtain ⟨ad356, e356, hx356_0, hx356_1⟩ := at_T80 HR0.out x4_1 p356 q356; obtain rfl : ad354 = ad356 := (by injection e356); replace hx356_0 := (HB.out.cell (World.block_lt_of_cell? w _ hx356_0)).trans hx356_0; replace hx356_1 := (HB.out.cell (World.block_lt_of_cell? w _ hx356_1)).trans hx356_1; replace p356 := eq_true p356; replace q356 := eq_true q356))) | (go_at_call 95; (with_reducible refine (goboref3_place.calls kj2 (wrap64 ((rd_T80 l0 x4_1).f1)) false t357 _ A11.out).mono ?_); rintro e w' ⟨rfl, ⟨nd, rfl⟩⟩; (try first | exact ⟨rfl, _, World.drewN_drewN _ _ _⟩ | exact ⟨rfl, _, Eq.trans (World.drewN_drewN _ _ _) (congrArg (World.drewN _) (Nat.add_assoc _ _ _))⟩)))))
               go_roundg kj2
               case measure => have := HK1.out; have := HJ2.out; omega
               case rel => exact ⟨(x3_1), (wrap64 (x4_1 + 1)), (by first | rfl | (simp; done) | (simp [*]; done)), H', ⟨by have := HK1.out; have := HJ2.out; omega⟩, ⟨by (with_reducible repeat (first | apply Kd.R_alloc | apply Kd.R_drewN | apply Kd.R_drew)); exact HO_3.out⟩, ⟨by repeat (first | (with_reducible first | exact HB.out | apply below_alloc | apply pw_below_drewN | apply below_drew1) | exact HB.out)⟩⟩
           · rw [if_neg c9] at H
             exact absurd H (by simp)
         · rw [if_neg c8] at H
           exact absurd H (by simp)
   · rw [if_neg c2] at H
     have c2b0 : decide (x4_1 < (l0.length : Int)) = false := decide_eq_false c2
     clear c2
     obtain rfl := Option.some.inj H
     go_wp2
     repeat (go_quiet (fail); try go_wp2)
     go_ret
     exact ⟨_, by first | rfl | (simp [errW_none, errW_some] <;> rfl) | (simp [*, errW_none, errW_some] <;> rfl), by (with_reducible repeat (first | apply Kd.R_alloc | apply Kd.R_drewN | apply Kd.R_drew)); exact HO_3.out, by repeat (first | (with_reducible first | exact HB.out | apply below_alloc | apply pw_below_drewN | apply below_drew1) | exact HB.out)⟩
def goboref3_Norm.f (k : Nat) (l0 : List (S80)) : Option ((List (S80))) := (goboref3_cells.f k l0).bind fun t361 => ((goboref3_pick.f k t361 ([] : List (S114)) 1).bind fun t364 => (some t364))
theorem goboref3_Norm.mono : ∀ a0 k, LeO (goboref3_Norm.f k a0) (goboref3_Norm.f (k + 1) a0) := by
 intro a0 k
 unfold goboref3_Norm.f
 repeat' first
  | (with_reducible exact goboref3_cells.mono _ _)
  | (with_reducible exact goboref3_pick.mono _ _ _ _)
  | (with_reducible exact LeO.refl _)
  | (with_reducible exact LeO.none _)
  | (with_reducible refine LeO.ite ?_ ?_)
  | (with_reducible refine LeO.bind ?_ (fun _ => ?_))
  | exact goboref3_cells.mono _ _
  | exact goboref3_pick.mono _ _ _ _
  | exact LeO.none _
  | refine LeO.ite ?_ ?_
  | refine LeO.bind ?_ (fun _ => ?_)
set_option maxHeartbeats 8000000 in
set_option maxRecDepth 100000 in
theorem goboref3_Norm.calls (k : Nat) (A0 : Option Addr) (c0 : Nat) (l0 : List (S80)) (r : List (S80)) (w : World) (hr0 : Kd.C k80 w A0 l0.length l0) (hc0 : l0.length ≤ c0) (h : goboref3_Norm.f k l0 = some r) :
 Calls Tryz.prog 84 #[.slice A0 l0.length c0] w fun e w' => ∃ v0_ : Value, e = .returned (v0_) ∧ Kd.R k80 80 w' w.heap.size (fun _ => True) v0_ r ∧ Below w.heap.size w w' := by
 have HR0 := Aside0.mk hr0
 have HC0 := Aside0.mk hc0
 clear hr0 hc0
 have HB := Aside0.mk (Below.refl w.heap.size w)
 have H : ((goboref3_cells.f k l0).bind fun t361 => ((goboref3_pick.f k t361 ([] : List (S114)) 1).bind fun t364 => (some t364))) = some r := h
 clear h
 replace H := Option.bind_eq_some_iff.mp H
 obtain ⟨t361, A20, H⟩ := H
 replace H : ((goboref3_pick.f k t361 ([] : List (S114)) 1).bind fun t364 => (some t364)) = some r := H
 have A2 := Aside0.mk A20
 clear A20
 replace H := Option.bind_eq_some_iff.mp H
 obtain ⟨t364, A30, H⟩ := H
 replace H : (some t364) = some r := H
 have A3 := Aside0.mk A30
 clear A30
 obtain rfl := Option.some.inj H
 go_enter Tryz.func84, Tryz.ntmps84
 go_wp2_with (first | ((with_reducible refine gate_callee (f := 89) rfl ?_); refine goesL_ (some 4) rfl rfl Tryz.func89 (by kernel_rfl) rfl #[.slice A0 l0.length c0] rfl (by (try simp only [List.map_toArray, List.map_cons, List.map_nil]); first | done | rfl | (simp only [List.length_drop, List.length_take]; rfl)) ?_; (with_reducible refine (goboref3_cells.calls k _ _ l0 t361 _ ?side1 ?side2 A2.out).mono ?_); (case side1 => repeat (first | exact HR0.out | (with_reducible refine Kd.C_alloc ?_ _) | (with_reducible refine Kd.C_drewN ?_ _) | (with_reducible refine Kd.C_drew ?_))); (case side2 => exact HC0.out); rintro e w4 ⟨v362, rfl, ho0, hb⟩; refine ⟨_, rfl, ?_⟩; have n0_ := Aside0.mk (Kd.R_lower ho0 (below_size (by repeat (first | (with_reducible first | exact HB.out | apply below_alloc | apply pw_below_drewN | apply below_drew1) | exact HB.out)))); have n1_ := Aside0.mk (below_step (by repeat (first | (with_reducible first | exact HB.out | apply below_alloc | apply pw_below_drewN | apply below_drew1) | exact HB.out)) hb); clear HB; have HO363 := n0_; have HB := n1_; clear n0_ n1_; (try clear hb); (try clear hb2); (try clear hk); (try clear hi); (try clear ho0); obtain ⟨Ao5, co5, eo5⟩ := Kd.R_slice HO363.out; subst eo5) | ((with_reducible refine gate_callee (f := 88) rfl ?_); refine goesL_ (some 5) rfl rfl Tryz.func88 (by kernel_rfl) rfl #[.slice Ao5 t361.length co5, .slice none 0 0, .int .i64 1] rfl (by (try simp only [List.map_toArray, List.map_cons, List.map_nil]); first | done | rfl | (simp only [List.length_drop, List.length_take]; rfl)) ?_; (refine (goboref3_pick.calls k _ _ t361 _ _ ([] : List (S114)) 1 t364 _ ?side1 ?side2 ?side3 ?side4 A3.out).mono ?_); (case side1 => repeat (first | exact (Kd.R_reads' HO363.out).2.2 | (with_reducible refine Kd.C_alloc ?_ _) | (with_reducible refine Kd.C_drewN ?_ _) | (with_reducible refine Kd.C_drew ?_))); (case side2 => exact (Kd.R_reads' HO363.out).2.1); (case side3 => exact Kd.C_nil _ _); (case side4 => exact Nat.le_refl _); rintro e w6 ⟨v365, rfl, ho0, hb⟩; refine ⟨_, rfl, ?_⟩; have n0_ := Aside0.mk (Kd.R_below (by (with_reducible repeat (first | apply Kd.R_alloc | apply Kd.R_drewN | apply Kd.R_drew)); exact HO363.out) hb); have n1_ := Aside0.mk (Kd.R_lower ho0 (below_size (by repeat (first | (with_reducible first | exact HB.out | apply below_alloc | apply pw_below_drewN | apply below_drew1) | exact HB.out)))); have n2_ := Aside0.mk (below_step (by repeat (first | (with_reducible first | exact HB.out | apply below_alloc | apply pw_below_drewN | apply below_drew1) | exact HB.out)) hb); clear HO363; clear HB; have HO363 := n0_; have HO366 := n1_; have HB := n2_; clear n0_ n1_ n2_; (try clear hb); (try clear hb2); (try clear hk); (try clear hi); (try clear ho0)))
 go_ret
 exact ⟨_, by first | rfl | (simp [errW_none, errW_some] <;> rfl) | (simp [*, errW_none, errW_some] <;> rfl), by (with_reducible repeat (first | apply Kd.R_alloc | apply Kd.R_drewN | apply Kd.R_drew)); exact HO366.out, by repeat (first | (with_reducible first | exact HB.out | apply below_alloc | apply pw_below_drewN | apply below_drew1) | exact HB.out)⟩
def goboref3_May.f (k : Nat) (l0 : List (S80)) : Option (Bool) := (goboref3_Norm.f k l0).bind fun t367 => ((goboref3_Same.f k l0 t367).bind fun t370 => (some t370))
theorem goboref3_May.mono : ∀ a0 k, LeO (goboref3_May.f k a0) (goboref3_May.f (k + 1) a0) := by
 intro a0 k
 unfold goboref3_May.f
 repeat' first
  | (with_reducible exact goboref3_Norm.mono _ _)
  | (with_reducible exact goboref3_Same.mono _ _ _)
  | (with_reducible exact LeO.refl _)
  | (with_reducible exact LeO.none _)
  | (with_reducible refine LeO.ite ?_ ?_)
  | (with_reducible refine LeO.bind ?_ (fun _ => ?_))
  | exact goboref3_Norm.mono _ _
  | exact goboref3_Same.mono _ _ _
  | exact LeO.none _
  | refine LeO.ite ?_ ?_
  | refine LeO.bind ?_ (fun _ => ?_)
set_option maxHeartbeats 8000000 in
set_option maxRecDepth 100000 in
theorem goboref3_May.calls (k : Nat) (A0 : Option Addr) (c0 : Nat) (l0 : List (S80)) (r : Bool) (w : World) (hr0 : Kd.C k80 w A0 l0.length l0) (hc0 : l0.length ≤ c0) (h : goboref3_May.f k l0 = some r) :
 Calls Tryz.prog 73 #[.slice A0 l0.length c0] w fun e w' => e = .returned (.bool r) ∧ Below w.heap.size w w' := by
 have HR0 := Aside0.mk hr0
 have HC0 := Aside0.mk hc0
 clear hr0 hc0
 have HB := Aside0.mk (Below.refl w.heap.size w)
 have H : ((goboref3_Norm.f k l0).bind fun t367 => ((goboref3_Same.f k l0 t367).bind fun t370 => (some t370))) = some r := h
 clear h
 replace H := Option.bind_eq_some_iff.mp H
 obtain ⟨t367, A20, H⟩ := H
 replace H : ((goboref3_Same.f k l0 t367).bind fun t370 => (some t370)) = some r := H
 have A2 := Aside0.mk A20
 clear A20
 replace H := Option.bind_eq_some_iff.mp H
 obtain ⟨t370, A30, H⟩ := H
 replace H : (some t370) = some r := H
 have A3 := Aside0.mk A30
 clear A30
 obtain rfl := Option.some.inj H
 go_enter Tryz.func73, Tryz.ntmps73
 go_wp2_with (first | ((with_reducible refine gate_callee (f := 84) rfl ?_); refine goesL_ (some 5) rfl rfl Tryz.func84 (by kernel_rfl) rfl #[.slice A0 l0.length c0] rfl (by (try simp only [List.map_toArray, List.map_cons, List.map_nil]); first | done | rfl | (simp only [List.length_drop, List.length_take]; rfl)) ?_; (with_reducible refine (goboref3_Norm.calls k _ _ l0 t367 _ ?side1 ?side2 A2.out).mono ?_); (case side1 => repeat (first | exact HR0.out | (with_reducible refine Kd.C_alloc ?_ _) | (with_reducible refine Kd.C_drewN ?_ _) | (with_reducible refine Kd.C_drew ?_))); (case side2 => exact HC0.out); rintro e w4 ⟨v368, rfl, ho0, hb⟩; refine ⟨_, rfl, ?_⟩; have n0_ := Aside0.mk (Kd.R_lower ho0 (below_size (by repeat (first | (with_reducible first | exact HB.out | apply below_alloc | apply pw_below_drewN | apply below_drew1) | exact HB.out)))); have n1_ := Aside0.mk (below_step (by repeat (first | (with_reducible first | exact HB.out | apply below_alloc | apply pw_below_drewN | apply below_drew1) | exact HB.out)) hb); clear HB; have HO369 := n0_; have HB := n1_; clear n0_ n1_; (try clear hb); (try clear hb2); (try clear hk); (try clear hi); (try clear ho0); obtain ⟨Ao5, co5, eo5⟩ := Kd.R_slice HO369.out; subst eo5) | ((with_reducible refine gate_callee (f := 64) rfl ?_); refine goesL_ (some 6) rfl rfl Tryz.func64 (by kernel_rfl) rfl #[.slice A0 l0.length c0, .slice Ao5 t367.length co5] rfl (by (try simp only [List.map_toArray, List.map_cons, List.map_nil]); first | done | rfl | (simp only [List.length_drop, List.length_take]; rfl)) ?_; (with_reducible refine (goboref3_Same.calls k _ _ l0 _ _ t367 t370 _ ?side1 ?side2 ?side3 ?side4 A3.out).mono ?_); (case side1 => repeat (first | exact (Kd.C_below HR0.out HB.out) | (with_reducible refine Kd.C_alloc ?_ _) | (with_reducible refine Kd.C_drewN ?_ _) | (with_reducible refine Kd.C_drew ?_))); (case side2 => exact HC0.out); (case side3 => repeat (first | exact (Kd.R_reads' HO369.out).2.2 | (with_reducible refine Kd.C_alloc ?_ _) | (with_reducible refine Kd.C_drewN ?_ _) | (with_reducible refine Kd.C_drew ?_))); (case side4 => exact (Kd.R_reads' HO369.out).2.1); rintro e w' ⟨rfl, ⟨nd, rfl⟩⟩; refine ⟨_, rfl, ?_⟩))
 go_ret
 exact ⟨by first | rfl | (simp [errW_none, errW_some] <;> rfl) | (simp [*, errW_none, errW_some] <;> rfl), by repeat (first | (with_reducible first | exact HB.out | apply below_alloc | apply pw_below_drewN | apply below_drew1) | exact HB.out)⟩
end Go.Proofs.YthdfmbmbjpmlaaaGreatDoor.Rn
end
section
set_option linter.unusedVariables false
set_option linter.unusedSimpArgs false
namespace Go.Proofs.YthdfmbmbjpmlaaaGreatDoor.Rn
open Go Go.RowKit Go.Proofs.YthdfmbmbjpmlaaaGreatDoorW.PrintWords Go.Proofs.YthdfmbmbjpmlaaaGreatDoorW.PrintLast Go.Proofs.YthdfmbmbjpmlaaaGreatDoorW.PrintMore
def endsL : List Sp → List Int
 | [] => []
 | x :: L => x.f0 :: x.f1 :: endsL L
theorem endsL_len (L : List Sp) : (endsL L).length = 2 * L.length := by
 induction L with
 | nil => rfl
 | cons x L ih => simp [endsL, ih]; omega
def okS (L : List Sp) : Prop := ∀ x, x ∈ L → 0 ≤ x.f0 ∧ x.f0 < x.f1 ∧ x.f1 ≤ 1112064
theorem num_is {r : Int} (h1 : -2147483648 ≤ r) (h2 : r < 2147483648) : numS r = (if r < 0 then 0 else if r < 55296 then r else if r ≤ 57343 then 55296 else if r ≤ 1114112 then r - 2048 else 1112064) := by
 unfold numS runes_number.f
 by_cases c1 : r < 0
 · simp [c1]
 by_cases c2 : r < 55296
 · simp only [if_neg c1, if_pos c2, Option.getD_some]
   unfold wrap64; omega
 by_cases c3 : r ≤ 57343
 · simp only [if_neg c1, if_neg c2, if_pos c3, Option.getD_some]
 simp only [if_neg c1, if_neg c2, if_neg c3, Option.getD_some]
 unfold mn wrap64
 by_cases c4 : r ≤ 1114112
 · rw [if_pos c4]; split <;> omega
 · rw [if_neg c4]; split <;> omega
theorem beh_is {r : Int} (h1 : -2147483648 ≤ r) (h2 : r < 2147483648) : behS r = numS r + (if isS r = true then 1 else 0) := by
 have hn := num_nonneg h1 h2
 have hn2 : numS r ≤ 1112064 := by rw [num_is h1 h2]; repeat' split <;> omega
 unfold behS runes_behind.f
 rw [num_f, is_f]
 simp only [Option.bind_some]
 cases h : isS r
 · simp
 · simp
   unfold wrap64; omega
theorem val_is {n : Int} (h1 : 0 ≤ n) (h2 : n < 1112064) : valS n = if n < 55296 then n else n + 2048 := by
 unfold valS runes_value.f
 by_cases c : n < 55296
 · simp only [if_pos c, Option.getD_some]; unfold wrap32; omega
 · simp only [if_neg c, Option.getD_some]; unfold wrap32 wrap64; omega
theorem okR_at' {l : List Rg} (h : okR l = true) {y : Rg} (hy : y ∈ l) : -2147483648 ≤ y.f0 ∧ y.f0 < 2147483648 ∧ -2147483648 ≤ y.f1 ∧ y.f1 < 2147483648 := by
 unfold okR at h
 simp only [Bool.and_eq_true, decide_eq_true_eq, List.all_eq_true] at h
 have := h.2 y hy
 omega
theorem raw_ok {l : List Rg} (h : okR l = true) : okS (rawS l) := fun x hx => by
 obtain ⟨y, hy, hxy⟩ := List.mem_flatMap.1 hx
 obtain ⟨b0, b1, b2, b3⟩ := okR_at' h hy
 unfold keepS at hxy
 by_cases c : y.f0 ≤ y.f1 ∧ numS y.f0 < behS y.f1
 · rw [if_pos c] at hxy
   obtain rfl := List.mem_singleton.1 hxy
   refine ⟨num_nonneg b0 b1, c.2, ?_⟩
   show behS y.f1 ≤ _
   rw [beh_is b2 b3, num_is b2 b3]
   unfold isS
   simp only [Bool.or_eq_true, Bool.and_eq_true, decide_eq_true_eq]
   repeat' split <;> omega
 · rw [if_neg c] at hxy
   cases hxy
theorem isS_iff (r : Int) : isS r = true ↔ (0 ≤ r ∧ r < 55296) ∨ (57343 < r ∧ r ≤ 1114111) := by
 unfold isS
 simp only [Bool.or_eq_true, Bool.and_eq_true, decide_eq_true_eq]
theorem val_num {n : Int} (h1 : 0 ≤ n) (h2 : n < 1112064) : numS (valS n) = n ∧ isS (valS n) = true ∧ 0 ≤ valS n ∧ valS n ≤ 1114111 := by
 rw [val_is h1 h2, isS_iff]
 by_cases c : n < 55296
 · rw [if_pos c, num_is (by omega) (by omega), if_neg (by omega), if_pos c]
   omega
 · rw [if_neg c, num_is (by omega) (by omega), if_neg (by omega), if_neg (by omega), if_neg (by omega), if_pos (by omega)]
   omega
theorem num_val {r : Int} (h : isS r = true) : valS (numS r) = r ∧ 0 ≤ numS r ∧ numS r < 1112064 := by
 rw [isS_iff] at h
 have hn : numS r = if r < 55296 then r else r - 2048 := by
  rw [num_is (by omega) (by omega), if_neg (by omega)]
  by_cases c : r < 55296
  · rw [if_pos c, if_pos c]
  · rw [if_neg c, if_neg c, if_neg (by omega), if_pos (by omega)]
 rw [hn]
 by_cases c : r < 55296
 · rw [if_pos c, val_is (by omega) (by omega), if_pos c]
   omega
 · rw [if_neg c, val_is (by omega) (by omega), if_neg (by omega)]
   omega
theorem rg_is {x : Sp} (h0 : 0 ≤ x.f0) (h1 : x.f0 < x.f1) (h2 : x.f1 ≤ 1112064) : rgS x = ⟨valS x.f0, valS (x.f1 - 1)⟩ := by
 unfold rgS
 rw [show wrap64 (x.f1 - 1) = x.f1 - 1 by unfold wrap64; omega]
theorem spans_ok {l : List Rg} (h : okR l = true) : okS (spansS l) ∧ NFb (-1) (spansS l) := by
 have hv := raw_ok h
 obtain ⟨h1, h2⟩ := nfS_spec (l := rawS l) (fun x hx => ⟨(hv x hx).1, (hv x hx).2.1⟩)
 refine ⟨fun x hx => ?_, h1⟩
 have h3 := NFb_mem h1 x hx
 refine ⟨by have := h3.1; show 0 ≤ x.f0; omega, h3.2, ?_⟩
 obtain ⟨y, hy, hy1, hy2⟩ := (h2 (x.f1 - 1)).1 ⟨x, hx, by have := h3.2; omega, by omega⟩
 have := (hv y hy).2.2
 have hy3 : x.f1 - 1 < y.f1 := hy2
 omega
theorem inR_rg {x : Sp} (h0 : 0 ≤ x.f0) (h1 : x.f0 < x.f1) (h2 : x.f1 ≤ 1112064) {o : Int} (ho : isS o = true) : inR o (rgS x) = true ↔ x.f0 ≤ numS o ∧ numS o < x.f1 := by
 rw [rg_is h0 h1 h2]
 obtain ⟨e, n0, n1⟩ := num_val ho
 have hv := val_is n0 n1
 have hv0 := val_is h0 (show x.f0 < 1112064 by omega)
 have hv1 := val_is (show 0 ≤ x.f1 - 1 by omega) (show x.f1 - 1 < 1112064 by omega)
 unfold inR
 simp only [Bool.and_eq_true, decide_eq_true_eq]
 rw [e] at hv
 generalize numS o = n at *
 generalize valS x.f0 = p at *
 generalize valS (x.f1 - 1) = q at *
 subst hv0 hv1 hv
 repeat' split
 all_goals omega
theorem has_rg {L : List Sp} (h : okS L) {o : Int} (ho : isS o = true) : hasS (L.map rgS) o = true ↔ inS L (numS o) := by
 unfold hasS inS
 rw [ho, Bool.true_and, List.any_eq_true]
 constructor
 · rintro ⟨y, hy, h1⟩
   obtain ⟨x, hx, rfl⟩ := List.mem_map.1 hy
   obtain ⟨b0, b1, b2⟩ := h x hx
   exact ⟨x, hx, (inR_rg b0 b1 b2 ho).1 h1⟩
 · rintro ⟨x, hx, h1⟩
   obtain ⟨b0, b1, b2⟩ := h x hx
   exact ⟨_, List.mem_map_of_mem hx, (inR_rg b0 b1 b2 ho).2 h1⟩
set_option maxHeartbeats 1000000 in
theorem num_le {p o : Int} (b0 : -2147483648 ≤ p) (b1 : p < 2147483648) (ho : isS o = true) : numS p ≤ numS o ↔ p ≤ o := by
 have hs := (isS_iff o).1 ho
 rw [num_is b0 b1, num_is (r := o) (by omega) (by omega)]
 clear ho
 rw [if_neg (show ¬ o < 0 by omega)]
 by_cases c : o < 55296
 · rw [if_pos c]
   repeat' split
   all_goals omega
 · rw [if_neg c, if_neg (show ¬ o ≤ 57343 by omega), if_pos (show o ≤ 1114112 by omega)]
   repeat' split
   all_goals omega
set_option maxHeartbeats 1000000 in
theorem lt_beh {q o : Int} (b0 : -2147483648 ≤ q) (b1 : q < 2147483648) (ho : isS o = true) : numS o < behS q ↔ o ≤ q := by
 have hs := (isS_iff o).1 ho
 have h1 := num_le b0 b1 ho
 rw [beh_is b0 b1]
 cases hq : isS q
 · rw [if_neg (by decide), Int.add_zero]
   have hq2 : ¬((0 ≤ q ∧ q < 55296) ∨ (57343 < q ∧ q ≤ 1114111)) := fun h => by rw [(isS_iff q).2 h] at hq; cases hq
   rw [num_is b0 b1, num_is (r := o) (by omega) (by omega), if_neg (show ¬ o < 0 by omega)]
   clear ho h1 hq
   by_cases c : o < 55296
   · rw [if_pos c]
     repeat' split
     all_goals omega
   · rw [if_neg c, if_neg (show ¬ o ≤ 57343 by omega), if_pos (show o ≤ 1114112 by omega)]
     repeat' split
     all_goals omega
 · rw [if_pos rfl]
   have h2 := num_le (p := o) (by omega) (by omega) hq
   omega
theorem inR_raw {y : Rg} (b0 : -2147483648 ≤ y.f0) (b1 : y.f0 < 2147483648) (b2 : -2147483648 ≤ y.f1) (b3 : y.f1 < 2147483648) {o : Int} (ho : isS o = true) : inR o y = true ↔ inS (keepS y) (numS o) := by
 have h0 := num_le b0 b1 ho
 have h1 := lt_beh b2 b3 ho
 unfold inR keepS inS
 simp only [Bool.and_eq_true, decide_eq_true_eq]
 constructor
 · rintro ⟨h2, h3⟩
   have h4 := h0.2 h2
   have h5 := h1.2 h3
   exact ⟨⟨numS y.f0, behS y.f1⟩, by rw [if_pos ⟨by omega, by omega⟩]; exact List.mem_singleton.2 rfl, h4, h5⟩
 · rintro ⟨x, hx, h2, h3⟩
   by_cases hc : y.f0 ≤ y.f1 ∧ numS y.f0 < behS y.f1
   · rw [if_pos hc] at hx
     obtain rfl := List.mem_singleton.1 hx
     exact ⟨h0.1 h2, h1.1 h3⟩
   · rw [if_neg hc] at hx
     cases hx
theorem has_raw {l : List Rg} (h : okR l = true) {o : Int} (ho : isS o = true) : hasS l o = true ↔ inS (rawS l) (numS o) := by
 unfold hasS
 rw [ho, Bool.true_and, List.any_eq_true]
 constructor
 · rintro ⟨y, hy, h1⟩
   obtain ⟨b0, b1, b2, b3⟩ := okR_at' h hy
   obtain ⟨x, hx, h2⟩ := (inR_raw b0 b1 b2 b3 ho).1 h1
   exact ⟨x, List.mem_flatMap.2 ⟨y, hy, hx⟩, h2⟩
 · rintro ⟨x, hx, h2⟩
   obtain ⟨y, hy, hxy⟩ := List.mem_flatMap.1 hx
   obtain ⟨b0, b1, b2, b3⟩ := okR_at' h hy
   exact ⟨y, hy, (inR_raw b0 b1 b2 b3 ho).2 ⟨x, hxy, h2⟩⟩
theorem in_spans {l : List Rg} (h : okR l = true) (n : Int) : inS (spansS l) n ↔ inS (rawS l) n :=
 (nfS_spec (l := rawS l) (fun x hx => ⟨(raw_ok h x hx).1, (raw_ok h x hx).2.1⟩)).2 n
theorem has_norm {l : List Rg} (h : okR l = true) (o : Int) : hasS (normS l) o = hasS l o := by
 cases ho : isS o
 · unfold hasS
   rw [ho, Bool.false_and, Bool.false_and]
 · rw [Bool.eq_iff_iff, has_raw h ho]
   unfold normS
   rw [has_rg (spans_ok h).1 ho, in_spans h]
def NFl (l : List Rg) : Prop := ∃ L, okS L ∧ NFb (-1) L ∧ l = L.map rgS
theorem NFl_ext {l m : List Rg} (h : NFl l) (k : NFl m) (e : ∀ o, hasS l o = hasS m o) : l = m := by
 obtain ⟨L, h1, h2, rfl⟩ := h
 obtain ⟨M, k1, k2, rfl⟩ := k
 have hLM : L = M := by
  refine NFb_unique L M (-1) h2 k2 (fun n => ?_)
  by_cases hn : 0 ≤ n ∧ n < 1112064
  · obtain ⟨v1, v2, _, _⟩ := val_num hn.1 hn.2
    have e1 := e (valS n)
    have a1 := has_rg h1 v2
    have a2 := has_rg k1 v2
    rw [v1] at a1 a2
    rw [← a1, ← a2, e1]
  · constructor
    · rintro ⟨x, hx, hx1, hx2⟩
      have h3 := h1 x hx
      have hx1' : x.f0 ≤ n := hx1
      have hx2' : n < x.f1 := hx2
      exact absurd ⟨by omega, by omega⟩ hn
    · rintro ⟨x, hx, hx1, hx2⟩
      have h3 := k1 x hx
      have hx1' : x.f0 ≤ n := hx1
      have hx2' : n < x.f1 := hx2
      exact absurd ⟨by omega, by omega⟩ hn
 rw [hLM]
theorem NFl_norm {l : List Rg} (h : okR l = true) : NFl (normS l) := ⟨spansS l, (spans_ok h).1, (spans_ok h).2, rfl⟩
def inB (L : List Sp) (n : Int) : Bool := L.any (fun x => decide (x.f0 ≤ n) && decide (n < x.f1))
theorem inB_iff (L : List Sp) (n : Int) : inB L n = true ↔ inS L n := by
 unfold inB inS
 rw [List.any_eq_true]
 constructor
 · rintro ⟨x, hx, h⟩
   simp only [Bool.and_eq_true, decide_eq_true_eq] at h
   exact ⟨x, hx, h.1, h.2⟩
 · rintro ⟨x, hx, h1, h2⟩
   refine ⟨x, hx, ?_⟩
   simp only [Bool.and_eq_true, decide_eq_true_eq]
   exact ⟨h1, h2⟩
theorem rd_nat (l : List Int) (i : Nat) (hi : i < l.length) : rd l (i : Int) = l[i] := by
 unfold rd
 rw [Int.toNat_natCast, List.getD_eq_getElem?_getD, List.getElem?_eq_getElem hi]
 rfl
theorem wsucc {i : Nat} (h : i ≤ 100000000) : wrap64 ((i : Int) + 1) = ((i + 1 : Nat) : Int) := by unfold wrap64; omega
theorem w64_32 {a : Int} (h0 : -2147483648 ≤ a) (h1 : a < 2147483648) : wrap64 a = a := by unfold wrap64; omega
def insD (c : Int) : List Int → List Int
 | [] => [c]
 | x :: xs => if x < c then x :: insD c xs else if x = c then x :: xs else c :: x :: xs
theorem insD_len (c : Int) : ∀ l, (insD c l).length ≤ l.length + 1
 | [] => by simp [insD]
 | x :: xs => by
  have := insD_len c xs
  unfold insD
  repeat' split
  all_goals simp; try omega
def insAll (es out : List Int) : List Int := es.foldl (fun o e => insD e o) out
def RisB : Int → List Int → Prop
 | _, [] => True
 | lo, x :: r => lo < x ∧ RisB x r
theorem insD_ris (c : Int) : ∀ (l : List Int) (lo : Int), lo < c → RisB lo l → RisB lo (insD c l)
 | [], lo, h, _ => ⟨h, trivial⟩
 | x :: xs, lo, h, hr => by
  unfold insD
  by_cases c1 : x < c
  · rw [if_pos c1]
    exact ⟨hr.1, insD_ris c xs x c1 hr.2⟩
  · rw [if_neg c1]
    by_cases c2 : x = c
    · rw [if_pos c2]
      exact hr
    · rw [if_neg c2]
      exact ⟨h, by omega, hr.2⟩
theorem insD_mem (c z : Int) : ∀ l, z ∈ insD c l ↔ z = c ∨ z ∈ l
 | [] => by simp [insD]
 | x :: xs => by
  have ih := insD_mem c z xs
  unfold insD
  by_cases c1 : x < c
  · rw [if_pos c1]
    simp only [List.mem_cons, ih]
    constructor
    · rintro (h | h | h)
      · exact .inr (.inl h)
      · exact .inl h
      · exact .inr (.inr h)
    · rintro (h | h | h)
      · exact .inr (.inl h)
      · exact .inl h
      · exact .inr (.inr h)
  · rw [if_neg c1]
    by_cases c2 : x = c
    · rw [if_pos c2, c2]
      simp only [List.mem_cons]
      constructor
      · exact .inr
      · rintro (h | h)
        · exact .inl h
        · exact h
    · rw [if_neg c2]
      simp only [List.mem_cons]
theorem insAll_ris : ∀ (es out : List Int) (lo : Int), (∀ e, e ∈ es → lo < e) → RisB lo out → RisB lo (insAll es out)
 | [], out, lo, _, h => h
 | e :: es, out, lo, he, h => insAll_ris es (insD e out) lo (fun x hx => he x (List.mem_cons_of_mem _ hx)) (insD_ris e out lo (he e (List.mem_cons_self ..)) h)
theorem insAll_mem (z : Int) : ∀ (es out : List Int), z ∈ insAll es out ↔ z ∈ es ∨ z ∈ out
 | [], out => by simp [insAll]
 | e :: es, out => by
  have := insAll_mem z es (insD e out)
  show z ∈ insAll es (insD e out) ↔ _
  rw [this, insD_mem, List.mem_cons]
  constructor
  · rintro (h | h | h)
    · exact .inl (.inr h)
    · exact .inl (.inl h)
    · exact .inr h
  · rintro ((h | h) | h)
    · exact .inr (.inl h)
    · exact .inl h
    · exact .inr (.inr h)
theorem insAll_len : ∀ (es out : List Int), (insAll es out).length ≤ out.length + es.length
 | [], out => by simp [insAll]
 | e :: es, out => by
  have h1 := insAll_len es (insD e out)
  have h2 := insD_len e out
  show (insAll es (insD e out)).length ≤ _
  rw [List.length_cons]
  omega
theorem ris_mem : ∀ {l : List Int} {lo : Int}, RisB lo l → ∀ e, e ∈ l → lo < e
 | x :: r, lo, h, e, he => by
  rcases List.mem_cons.1 he with rfl | he
  · exact h.1
  · have := ris_mem h.2 e he
    have := h.1
    omega
theorem ris_gap : ∀ {c : List Int} {lo : Int}, RisB lo c → ∀ (i : Nat) (u v : Int) (R : List Int), c.drop i = u :: v :: R → u < v ∧ ∀ e, e ∈ c → e ≤ u ∨ v ≤ e
 | [], lo, _, i, u, v, R, h => by simp at h
 | x :: c, lo, hr, 0, u, v, R, h => by
  have h0 : x :: c = u :: v :: R := h
  injection h0 with h1 h2
  subst h1
  subst h2
  refine ⟨hr.2.1, fun e he => ?_⟩
  rcases List.mem_cons.1 he with rfl | he
  · exact .inl (Int.le_refl _)
  · rcases List.mem_cons.1 he with rfl | he
    · exact .inr (Int.le_refl _)
    · have := ris_mem hr.2.2 e he
      exact .inr (by omega)
 | x :: c, lo, hr, i + 1, u, v, R, h => by
  have h0 : c.drop i = u :: v :: R := h
  obtain ⟨h1, h2⟩ := ris_gap hr.2 i u v R h0
  refine ⟨h1, fun e he => ?_⟩
  rcases List.mem_cons.1 he with rfl | he
  · have hu : u ∈ c := List.mem_of_mem_drop (by rw [h0]; exact List.mem_cons_self ..)
    have := ris_mem hr.2 u hu
    exact .inl (by omega)
  · exact h2 e he
theorem ris_last : ∀ {c : List Int} {lo : Int}, RisB lo c → ∀ (i : Nat) (u : Int), c.drop i = [u] → ∀ e, e ∈ c → e ≤ u
 | [], lo, _, i, u, h, e, he => by cases he
 | x :: c, lo, hr, 0, u, h, e, he => by
  have h0 : x :: c = [u] := h
  rw [h0] at he
  obtain rfl := List.mem_singleton.1 he
  exact Int.le_refl _
 | x :: c, lo, hr, i + 1, u, h, e, he => by
  have h0 : c.drop i = [u] := h
  rcases List.mem_cons.1 he with rfl | he
  · have hu : u ∈ c := List.mem_of_mem_drop (by rw [h0]; exact List.mem_cons_self ..)
    have := ris_mem hr.2 u hu
    omega
  · exact ris_last hr.2 i u h0 e he
theorem endsL_mem (x : Sp) : ∀ (L : List Sp), x ∈ L → x.f0 ∈ endsL L ∧ x.f1 ∈ endsL L
 | y :: L, h => by
  rcases List.mem_cons.1 h with rfl | h
  · exact ⟨by simp [endsL], by simp [endsL]⟩
  · obtain ⟨a, b⟩ := endsL_mem x L h
    exact ⟨by simp [endsL, a], by simp [endsL, b]⟩
theorem endsL_of (e : Int) : ∀ (L : List Sp), e ∈ endsL L → ∃ x, x ∈ L ∧ (e = x.f0 ∨ e = x.f1)
 | y :: L, h => by
  simp only [endsL, List.mem_cons] at h
  rcases h with h | h | h
  · exact ⟨y, by simp, .inl h⟩
  · exact ⟨y, by simp, .inr h⟩
  · obtain ⟨x, hx, he⟩ := endsL_of e L h
    exact ⟨x, by simp [hx], he⟩
theorem inB_const {L : List Sp} {c : List Int} (hm : ∀ x, x ∈ L → x.f0 ∈ c ∧ x.f1 ∈ c) {u v : Int} (hgap : ∀ e, e ∈ c → e ≤ u ∨ v ≤ e) {n : Int} (h0 : u ≤ n) (h1 : n < v) : inB L n = inB L u := by
 unfold inB
 rw [Bool.eq_iff_iff, List.any_eq_true, List.any_eq_true]
 constructor
 · rintro ⟨x, hx, h⟩
   refine ⟨x, hx, ?_⟩
   simp only [Bool.and_eq_true, decide_eq_true_eq] at h ⊢
   have a := hgap _ (hm x hx).1
   have b := hgap _ (hm x hx).2
   omega
 · rintro ⟨x, hx, h⟩
   refine ⟨x, hx, ?_⟩
   simp only [Bool.and_eq_true, decide_eq_true_eq] at h ⊢
   have a := hgap _ (hm x hx).1
   have b := hgap _ (hm x hx).2
   omega
theorem ev_if {α : Type} {c : Prop} [Decidable c] {f g : Nat → Option α} {r : α} (h : c) (k : Ev f r) : Ev (fun n => if c then f n else g n) r := Ev.congr (fun _ => if_pos h) k
theorem ev_else {α : Type} {c : Prop} [Decidable c] {f g : Nat → Option α} {r : α} (h : ¬ c) (k : Ev g r) : Ev (fun n => if c then f n else g n) r := Ev.congr (fun _ => if_neg h) k
theorem ev_bind1 {α : Type} {g : Nat → Option α} {r : α} (h : Ev g r) : Ev (fun n => (g n).bind fun t => some t) r := Ev.congr (fun k => by cases g k <;> rfl) h
abbrev Ce := S114
def cl (x : Sp) : Ce := ⟨x.f0, x.f1⟩
theorem rd_ce (l : List Ce) (i : Nat) (hi : i < l.length) : rd_T114 l (i : Int) = l[i] := by
 unfold rd_T114
 rw [Int.toNat_natCast, List.getD_eq_getElem?_getD, List.getElem?_eq_getElem hi]
 rfl
theorem place_up {r : Int} (b0 : -2147483648 ≤ r) (h : r ≤ 1114111) : Ev (fun k => goboref3_place.f k r true) (numS r) := by
 refine Ev.step (f := fun _ => some (numS r)) (fun k => ?_) (Ev.now _)
 rw [num_is b0 (by omega)]
 unfold goboref3_place.f
 by_cases c1 : r < 0
 · simp [c1]
 by_cases c2 : r < 55296
 · simp [c1, c2]
 by_cases c3 : r ≤ 57343
 · simp [c1, c2, c3, goboref3_place.j0]
 · simp only [if_neg c1, if_neg c2, if_neg c3, goboref3_place.j0]
   rw [if_neg (by decide), if_neg (by omega), if_pos (by omega)]
   unfold wrap64
   congr 1
   omega
theorem place_dn {r : Int} (h : 0 ≤ r) (b1 : r < 2147483648) : Ev (fun k => goboref3_place.f k r false) (behS r - 1) := by
 refine Ev.step (f := fun _ => some (behS r - 1)) (fun k => ?_) (Ev.now _)
 have hs := isS_iff r
 rw [beh_is (by omega) b1, num_is (by omega) b1]
 unfold goboref3_place.f
 rw [if_neg (by omega), if_neg (show ¬ r < 0 by omega)]
 by_cases c2 : r < 55296
 · rw [if_pos c2, if_pos c2, if_pos (hs.2 (.inl ⟨h, c2⟩))]
   congr 1
   omega
 rw [if_neg c2, if_neg c2]
 by_cases c3 : r ≤ 57343
 · rw [if_pos c3, if_pos c3, if_neg (fun e => by have := hs.1 e; omega)]
   simp only [goboref3_place.j0]
   rw [if_neg (by decide), if_pos c3]
   rfl
 rw [if_neg c3, if_neg c3]
 simp only [goboref3_place.j0]
 rw [if_neg (by decide), if_neg c3]
 by_cases c4 : r > 1114111
 · have hf : isS r = false := by
    cases e : isS r
    · rfl
    · have := hs.1 e
      omega
   have e0 : (if (false : Bool) = true then (1 : Int) else 0) = 0 := rfl
   rw [if_pos c4, if_neg (by decide), hf, e0]
   congr 1
   split <;> omega
 · rw [if_neg c4, if_pos (hs.2 (.inr ⟨by omega, by omega⟩)), if_pos (by omega)]
   unfold wrap64
   congr 1
   omega
theorem num_top {r : Int} (b1 : r < 2147483648) (h : 1114111 < r) : numS r = 1112064 := by
 rw [num_is (by omega) b1]
 repeat' split
 all_goals omega
theorem beh_top {r : Int} (b0 : -2147483648 ≤ r) (b1 : r < 2147483648) : behS r ≤ 1112064 := by
 have hs := isS_iff r
 rw [beh_is b0 b1, num_is b0 b1]
 have e0 : (if (false : Bool) = true then (1 : Int) else 0) = 0 := rfl
 have e1 : (if (true : Bool) = true then (1 : Int) else 0) = 1 := rfl
 cases h : isS r
 · rw [e0]
   clear hs e0 e1 h
   repeat' split
   all_goals omega
 · rw [e1]
   have := hs.1 h
   clear hs e0 e1 h
   repeat' split
   all_goals omega
theorem beh_neg {r : Int} (b0 : -2147483648 ≤ r) (h : r < 0) : behS r = 0 := by
 have hs := isS_iff r
 rw [beh_is b0 (by omega), num_is b0 (by omega), if_pos h, if_neg (fun e => by have := hs.1 e; omega)]
 rfl
theorem keep_no {x : Rg} (h : ¬ (x.f0 ≤ x.f1 ∧ numS x.f0 < behS x.f1)) : keepS x = [] := by
 unfold keepS
 rw [if_neg h]
theorem cells_l (l : List Rg) (h : okR l = true) (hl : l.length ≤ 1000000) (d : Nat) : ∀ (i : Nat) (acc : List Ce), i ≤ l.length → l.length - i = d → acc.length ≤ i → Ev (fun k => goboref3_cells.l0 k l acc (i : Int)) (acc ++ (rawS (l.drop i)).map cl) := by
 induction d with
 | zero =>
  intro i acc h1 h2 _
  refine Ev.step (f := fun _ => some acc) (fun k => ?_) ?_
  · simp only [goboref3_cells.l0]
    rw [if_neg (by omega)]
  · rw [List.drop_of_length_le (by omega)]
    simp only [rawS, List.flatMap_nil, List.map_nil, List.append_nil]
    exact Ev.now _
 | succ d ih =>
  intro i acc h1 h2 ha
  have hi : i < l.length := by omega
  have e2 := wsucc (i := i) (by omega)
  have hx := okR_at' h (List.getElem_mem hi)
  have hdrop : rawS (l.drop i) = keepS l[i] ++ rawS (l.drop (i + 1)) := by
   rw [List.drop_eq_getElem_cons hi]
   rfl
  have hrd := rd_rg l i hi
  obtain ⟨x, hxe⟩ : ∃ x, l[i] = x := ⟨_, rfl⟩
  rw [hxe] at hx hdrop hrd
  obtain ⟨b0, b1, b2, b3⟩ := hx
  have skip : keepS x = [] → Ev (fun k => goboref3_cells.j1 k l acc (i : Int) true) (acc ++ (rawS (l.drop i)).map cl) := fun hk => by
   refine Ev.step (f := fun k => goboref3_cells.l0 k l acc ((i + 1 : Nat) : Int)) (fun k => ?_) ?_
   · simp only [goboref3_cells.j1]
     rw [if_pos trivial, e2]
   · rw [hdrop, hk, List.nil_append]
     exact ih (i + 1) acc (by omega) (by omega) (by omega)
  by_cases c1 : x.f0 > x.f1
  · refine Ev.step (f := fun k => goboref3_cells.j1 k l acc (i : Int) true) (fun k => ?_) (skip (keep_no (by omega)))
    simp only [goboref3_cells.l0]
    rw [if_pos (by omega), if_pos (by omega), hrd, if_pos c1]
  by_cases c2 : x.f1 < 0
  · refine Ev.step (f := fun k => goboref3_cells.j1 k l acc (i : Int) true) (fun k => ?_) (skip (keep_no (by rw [beh_neg b2 c2]; have := num_nonneg b0 b1; omega)))
    simp only [goboref3_cells.l0]
    rw [if_pos (by omega), if_pos (by omega), hrd, if_neg c1, if_pos c2]
  by_cases c3 : x.f0 > 1114111
  · refine Ev.step (f := fun k => goboref3_cells.j1 k l acc (i : Int) true) (fun k => ?_) (skip (keep_no (by rw [num_top b1 c3]; have := beh_top b2 b3; omega)))
    simp only [goboref3_cells.l0]
    rw [if_pos (by omega), if_pos (by omega), hrd, if_neg c1, if_neg c2, decide_eq_true c3]
  · refine Ev.step (f := fun k => goboref3_cells.j1 k l acc (i : Int) false) (fun k => ?_) ?_
    · simp only [goboref3_cells.l0]
      rw [if_pos (by omega), if_pos (by omega), hrd, if_neg c1, if_neg c2, decide_eq_false c3]
    have hw0 := w64_32 b0 b1
    have hw1 := w64_32 b2 b3
    have hw2 : wrap64 (behS x.f1 - 1 + 1) = behS x.f1 := by
     have q0 := beh_top b2 b3
     have q1 := num_nonneg b2 b3
     have q2 := beh_is b2 b3
     unfold wrap64
     split at q2 <;> omega
    refine Ev.step (f := fun k => (goboref3_place.f k x.f0 true).bind fun t => (goboref3_place.f k x.f1 false).bind fun u => if t < wrap64 (u + 1) then (if acc.length < 8796093022208 then goboref3_cells.l0 k l (acc ++ [(⟨t, wrap64 (u + 1)⟩ : Ce)]) ((i + 1 : Nat) : Int) else none) else goboref3_cells.l0 k l acc ((i + 1 : Nat) : Int)) (fun k => ?_) ?_
    · simp only [goboref3_cells.j1]
      rw [if_neg (by decide), if_pos (by omega), if_pos (by omega), hrd, e2, hw0, hw1]
    refine Ev.bind (place_up b0 (by omega)) (Ev.bind (place_dn (by omega) b3) ?_)
    rw [hw2]
    by_cases c4 : numS x.f0 < behS x.f1
    · refine Ev.congr (f := fun k => goboref3_cells.l0 k l (acc ++ [(⟨numS x.f0, behS x.f1⟩ : Ce)]) ((i + 1 : Nat) : Int)) (fun k => by rw [if_pos c4, if_pos (by omega)]) ?_
      have hk : keepS x = [⟨numS x.f0, behS x.f1⟩] := by unfold keepS; rw [if_pos ⟨by omega, c4⟩]
      rw [hdrop, hk]
      have := ih (i + 1) (acc ++ [(⟨numS x.f0, behS x.f1⟩ : Ce)]) (by omega) (by omega) (by simp; omega)
      rw [List.append_assoc] at this
      exact this
    · refine Ev.congr (f := fun k => goboref3_cells.l0 k l acc ((i + 1 : Nat) : Int)) (fun k => by rw [if_neg c4]) ?_
      rw [hdrop, keep_no (fun q => c4 q.2), List.nil_append]
      exact ih (i + 1) acc (by omega) (by omega) (by omega)
theorem cells_ev (l : List Rg) (h : okR l = true) : Ev (fun k => goboref3_cells.f k l) ((rawS l).map cl) :=
 cells_l l h (okR_len h) l.length 0 [] (by omega) (by omega) (by simp)
theorem in_l (L : List Sp) (hL : L.length ≤ 1000000) (p : Int) (d : Nat) : ∀ i : Nat, i ≤ L.length → L.length - i = d → Ev (fun k => goboref3_in.l0 k (L.map cl) p (i : Int)) (inB (L.drop i) p) := by
 induction d with
 | zero =>
  intro i h1 h2
  refine Ev.step (f := fun _ => some false) (fun k => ?_) ?_
  · simp only [goboref3_in.l0]
    rw [if_neg (by rw [List.length_map]; omega)]
  · rw [List.drop_of_length_le (by omega)]
    exact Ev.now _
 | succ d ih =>
  intro i h1 h2
  have hi : i < L.length := by omega
  have e2 := wsucc (i := i) (by omega)
  have hrd := rd_ce (L.map cl) i (by rw [List.length_map]; omega)
  rw [List.getElem_map] at hrd
  have hdrop : inB (L.drop i) p = ((decide (L[i].f0 ≤ p) && decide (p < L[i].f1)) || inB (L.drop (i + 1)) p) := by
   rw [List.drop_eq_getElem_cons hi]
   rfl
  have hn := ih (i + 1) (by omega) (by omega)
  obtain ⟨x, hxe⟩ : ∃ x, L[i] = x := ⟨_, rfl⟩
  rw [hxe] at hdrop hrd
  by_cases c1 : x.f0 ≤ p
  · by_cases c2 : p < x.f1
    · refine Ev.step (f := fun _ => some true) (fun k => ?_) ?_
      · simp only [goboref3_in.l0]
        rw [if_pos (by rw [List.length_map]; omega), if_pos (by omega), hrd, if_pos (show (cl x).f0 ≤ p from c1), if_pos (show p < (cl x).f1 from c2)]
      · rw [hdrop, decide_eq_true c1, decide_eq_true c2]
        exact Ev.now _
    · refine Ev.step (f := fun k => goboref3_in.l0 k (L.map cl) p ((i + 1 : Nat) : Int)) (fun k => ?_) ?_
      · simp only [goboref3_in.l0]
        rw [if_pos (by rw [List.length_map]; omega), if_pos (by omega), hrd, if_pos (show (cl x).f0 ≤ p from c1), if_neg (show ¬ p < (cl x).f1 from c2), e2]
      · rw [hdrop, decide_eq_false c2, Bool.and_false, Bool.false_or]
        exact hn
  · refine Ev.step (f := fun k => goboref3_in.l0 k (L.map cl) p ((i + 1 : Nat) : Int)) (fun k => ?_) ?_
    · simp only [goboref3_in.l0]
      rw [if_pos (by rw [List.length_map]; omega), if_pos (by omega), hrd, if_neg (show ¬ (cl x).f0 ≤ p from c1), e2]
    · rw [hdrop, decide_eq_false c1, Bool.false_and, Bool.false_or]
      exact hn
theorem in_ev (L : List Sp) (hL : L.length ≤ 1000000) (p : Int) : Ev (fun k => goboref3_in.f k (L.map cl) p) (inB L p) := in_l L hL p L.length 0 (by omega) (by omega)
theorem cuts_in (C : List Ce) (out : List Int) (i : Nat) (c : Int) (hi : i ≤ 10000000) (ho : out.length ≤ 10000000) (r : List Int) (h : Ev (fun k => goboref3_cuts.l0 k C (insD c out) ((i + 1 : Nat) : Int)) r) (d : Nat) : ∀ j : Nat, j ≤ out.length → out.length - j = d → insD c out = out.take j ++ insD c (out.drop j) → Ev (fun k => goboref3_cuts.l1 k C out (i : Int) c (j : Int)) r := by
 have e1 := wsucc (i := i) (by omega)
 induction d with
 | zero =>
  intro j h1 h2 hj
  refine Ev.step (f := fun k => goboref3_cuts.l0 k C (insD c out) ((i + 1 : Nat) : Int)) (fun k => ?_) h
  simp only [goboref3_cuts.l1]
  rw [if_neg (by omega), hj]
  simp only [Option.bind_some, List.nil_append, Int.toNat_natCast]
  rw [if_pos (by omega), if_pos (by omega), if_pos (by simp; omega), if_pos (by simp; omega), if_pos (by simp; omega), e1, List.drop_of_length_le (show out.length ≤ j by omega)]
  simp [insD]
 | succ d ih =>
  intro j h1 h2 hj
  have hlt : j < out.length := by omega
  have hrd := rd_nat out j hlt
  have e2 := wsucc (i := j) (by omega)
  have hdrop := List.drop_eq_getElem_cons hlt
  have htake := List.take_succ_eq_append_getElem hlt
  obtain ⟨x, hx⟩ : ∃ x, out[j] = x := ⟨_, rfl⟩
  rw [hx] at hrd hdrop htake
  by_cases c1 : x < c
  · refine Ev.step (f := fun k => goboref3_cuts.l1 k C out (i : Int) c ((j + 1 : Nat) : Int)) (fun k => ?_) (ih (j + 1) (by omega) (by omega) ?_)
    · simp only [goboref3_cuts.l1]
      rw [if_pos (by omega), if_pos (by omega), hrd, if_pos c1, e2]
    · rw [hj, hdrop, htake, List.append_assoc]
      rw [insD, if_pos c1]
      rfl
  · by_cases c2 : x = c
    · refine Ev.step (f := fun k => goboref3_cuts.l0 k C (insD c out) ((i + 1 : Nat) : Int)) (fun k => ?_) h
      simp only [goboref3_cuts.l1]
      rw [if_pos (by omega), if_pos (by omega), hrd, if_neg c1, if_pos c2, e1]
      rw [hj, hdrop, insD, if_neg c1, if_pos c2, ← hdrop, List.take_append_drop]
    · refine Ev.step (f := fun k => goboref3_cuts.l0 k C (insD c out) ((i + 1 : Nat) : Int)) (fun k => ?_) h
      simp only [goboref3_cuts.l1]
      rw [if_pos (by omega), if_pos (by omega), hrd, if_neg c1, if_neg c2]
      simp only [Option.bind_some, List.nil_append, Int.toNat_natCast]
      rw [if_pos (by omega), if_pos (by simp; omega), if_pos (by simp; omega), if_pos (by simp; omega), e1]
      rw [hj, hdrop, insD, if_neg c1, if_neg c2, List.append_assoc]
      rfl
theorem half0 (j : Nat) (h : j ≤ 10000000) : wrap64 (Int.tdiv ((2 * j : Nat) : Int) 2) = (j : Int) := by
 rw [Int.tdiv_eq_ediv_of_nonneg (by omega)]
 unfold wrap64
 omega
theorem half1 (j : Nat) : Int.tmod ((2 * j : Nat) : Int) 2 = 0 := by
 rw [Int.tmod_eq_emod_of_nonneg (by omega)]
 omega
theorem half2 (j : Nat) (h : j ≤ 10000000) : wrap64 (Int.tdiv ((2 * j + 1 : Nat) : Int) 2) = (j : Int) := by
 rw [Int.tdiv_eq_ediv_of_nonneg (by omega)]
 unfold wrap64
 omega
theorem half3 (j : Nat) : Int.tmod ((2 * j + 1 : Nat) : Int) 2 = 1 := by
 rw [Int.tmod_eq_emod_of_nonneg (by omega)]
 omega
theorem cuts_l (L : List Sp) (hL : L.length ≤ 1000000) (d : Nat) : ∀ (j : Nat) (out : List Int), j ≤ L.length → L.length - j = d → out.length ≤ 2 * j → Ev (fun k => goboref3_cuts.l0 k (L.map cl) out ((2 * j : Nat) : Int)) (insAll (endsL (L.drop j)) out) := by
 have eL : wrap64 (2 * ((L.map cl).length : Int)) = 2 * (L.length : Int) := by rw [List.length_map]; unfold wrap64; omega
 induction d with
 | zero =>
  intro j out h1 h2 _
  refine Ev.step (f := fun _ => some out) (fun k => ?_) ?_
  · simp only [goboref3_cuts.l0]
    rw [eL, if_neg (by omega)]
  · rw [List.drop_of_length_le (by omega)]
    exact Ev.now _
 | succ d ih =>
  intro j out h1 h2 ho
  have hj : j < L.length := by omega
  have hrd := rd_ce (L.map cl) j (by rw [List.length_map]; omega)
  rw [List.getElem_map] at hrd
  have hdrop : endsL (L.drop j) = L[j].f0 :: L[j].f1 :: endsL (L.drop (j + 1)) := by
   rw [List.drop_eq_getElem_cons hj]
   rfl
  obtain ⟨x, hx⟩ : ∃ x, L[j] = x := ⟨_, rfl⟩
  rw [hx] at hrd hdrop
  have l1 := insD_len x.f0 out
  have l2 := insD_len x.f1 (insD x.f0 out)
  have hn := ih (j + 1) (insD x.f1 (insD x.f0 out)) (by omega) (by omega) (by omega)
  have p0 : ((2 * j : Nat) : Int) < 2 * (L.length : Int) := by omega
  have p1 : ((2 * j + 1 : Nat) : Int) < 2 * (L.length : Int) := by omega
  have p2 : (0 : Int) ≤ (j : Int) := by omega
  have p3 : (j : Int) < ((L.map cl).length : Int) := by rw [List.length_map]; omega
  have p4 : 2 * j ≤ 10000000 := by omega
  have p5 : 2 * j + 1 ≤ 10000000 := by omega
  have p6 : out.length ≤ 10000000 := by omega
  have p7 : (insD x.f0 out).length ≤ 10000000 := by omega
  have q0 := half0 j (by omega)
  have q1 := half1 j
  have q2 := half2 j (by omega)
  have q3 := half3 j
  rw [hdrop]
  refine Ev.step (f := fun k => goboref3_cuts.j1 k (L.map cl) out ((2 * j : Nat) : Int) x.f0) (fun k => ?_) ?_
  · simp only [goboref3_cuts.l0]
    rw [eL, if_pos p0, q0, if_pos p2, if_pos p3, q1, if_neg (by decide), hrd]
    rfl
  refine Ev.step (f := fun k => goboref3_cuts.l1 k (L.map cl) out ((2 * j : Nat) : Int) x.f0 ((0 : Nat) : Int)) (fun k => by simp only [goboref3_cuts.j1]; rfl) ?_
  refine cuts_in (L.map cl) out (2 * j) x.f0 p4 p6 _ ?_ _ 0 (Nat.zero_le _) rfl rfl
  refine Ev.step (f := fun k => goboref3_cuts.j1 k (L.map cl) (insD x.f0 out) ((2 * j + 1 : Nat) : Int) x.f1) (fun k => ?_) ?_
  · simp only [goboref3_cuts.l0]
    rw [eL, if_pos p1, q2, if_pos p2, if_pos p3, q3, if_pos rfl, hrd]
    rfl
  refine Ev.step (f := fun k => goboref3_cuts.l1 k (L.map cl) (insD x.f0 out) ((2 * j + 1 : Nat) : Int) x.f1 ((0 : Nat) : Int)) (fun k => by simp only [goboref3_cuts.j1]; rfl) ?_
  exact cuts_in (L.map cl) (insD x.f0 out) (2 * j + 1) x.f1 p5 p7 _ hn _ 0 (Nat.zero_le _) rfl rfl
theorem cuts_ev (L : List Sp) (hL : L.length ≤ 1000000) : Ev (fun k => goboref3_cuts.f k (L.map cl)) (insAll (endsL L) []) := cuts_l L hL L.length 0 [] (by omega) (by omega) (by simp)
theorem drop_rd {c : List Int} {i : Nat} {u : Int} {R : List Int} (h : c.drop i = u :: R) : i < c.length ∧ rd c (i : Int) = u ∧ c.length = i + 1 + R.length ∧ c.drop (i + 1) = R := by
 have hl := congrArg List.length h
 rw [List.length_drop, List.length_cons] at hl
 have hi : i < c.length := by omega
 have h2 := List.drop_eq_getElem_cons hi
 rw [h] at h2
 injection h2 with h3 h4
 exact ⟨hi, by rw [rd_nat c i hi, h3], by omega, h4.symm⟩
theorem at_val {p : Int} (h0 : 0 ≤ p) (h1 : p < 1112064) : goboref3_at.f p = some (valS p) := by
 rw [val_is h0 h1]
 unfold goboref3_at.f
 by_cases c : p < 55296
 · rw [if_neg (by omega), if_pos c]
   congr 1
   unfold wrap32
   omega
 · rw [if_pos (by omega), if_neg c]
   congr 1
   unfold wrap32 wrap64
   omega
structure Inv (G : Int → Bool) (u : Int) (O : List Sp) (opn : Bool) : Prop where
 ok : okS O
 nf : NFb (-1) O
 mem : ∀ n, inS O n ↔ 0 ≤ n ∧ n < u ∧ G n = true
 le : ∀ y, y ∈ O → y.f1 ≤ u
 yes : opn = true → ∃ P y, O = P ++ [y] ∧ y.f1 = u
 no : opn = false → ∀ y, y ∈ O → y.f1 < u
theorem nf_snoc {O : List Sp} {x : Sp} (h : NFb (-1) O) (h0 : ∀ y, y ∈ O → y.f1 < x.f0) (h1 : 0 ≤ x.f0) (h2 : x.f0 < x.f1) : NFb (-1) (O ++ [x]) := by
 rcases List.eq_nil_or_concat O with rfl | ⟨P, y, rfl⟩
 · exact ⟨by show -1 < x.f0; omega, h2, trivial⟩
 · rw [List.concat_eq_append] at *
   exact NFb_snoc h (h0 y (by simp)) h2
theorem Inv.skip {G : Int → Bool} {u v : Int} {O : List Sp} {opn : Bool} (h : Inv G u O opn) (huv : u < v) (hG : ∀ n, u ≤ n → n < v → G n = false) : Inv G v O false where
 ok := h.ok
 nf := h.nf
 mem := fun n => by
  rw [h.mem]
  constructor
  · rintro ⟨a, b, c⟩
    exact ⟨a, by omega, c⟩
  · rintro ⟨a, b, c⟩
    by_cases d : n < u
    · exact ⟨a, d, c⟩
    · rw [hG n (by omega) b] at c
      cases c
 le := fun y hy => by have := h.le y hy; omega
 yes := fun e => by cases e
 no := fun _ y hy => by have := h.le y hy; omega
theorem Inv.fresh {G : Int → Bool} {u v : Int} {O : List Sp} (h : Inv G u O false) (h0 : 0 ≤ u) (huv : u < v) (hv : v ≤ 1112064) (hG : ∀ n, u ≤ n → n < v → G n = true) : Inv G v (O ++ [⟨u, v⟩]) true where
 ok := fun y hy => by
  rcases List.mem_append.1 hy with hy | hy
  · exact h.ok y hy
  · obtain rfl := List.mem_singleton.1 hy
    exact ⟨h0, huv, hv⟩
 nf := nf_snoc h.nf (h.no rfl) h0 huv
 mem := fun n => by
  rw [inS_append, h.mem, inS_cons]
  have hn := inS_nil n
  show _ ∨ ((u ≤ n ∧ n < v) ∨ _) ↔ _
  constructor
  · rintro (⟨a, b, c⟩ | ⟨a, b⟩ | a)
    · exact ⟨a, by omega, c⟩
    · exact ⟨by omega, b, hG n a b⟩
    · exact absurd a hn
  · rintro ⟨a, b, c⟩
    by_cases d : n < u
    · exact .inl ⟨a, d, c⟩
    · exact .inr (.inl ⟨by omega, b⟩)
 le := fun y hy => by
  rcases List.mem_append.1 hy with hy | hy
  · have := h.le y hy
    omega
  · obtain rfl := List.mem_singleton.1 hy
    exact Int.le_refl _
 yes := fun _ => ⟨O, _, rfl, rfl⟩
 no := fun e => by cases e
theorem Inv.more {G : Int → Bool} {u v : Int} {P : List Sp} {y : Sp} (h : Inv G u (P ++ [y]) true) (hy : y.f1 = u) (huv : u < v) (hv : v ≤ 1112064) (hG : ∀ n, u ≤ n → n < v → G n = true) : Inv G v (P ++ [⟨y.f0, v⟩]) true where
 ok := fun z hz => by
  rcases List.mem_append.1 hz with hz | hz
  · exact h.ok z (List.mem_append_left _ hz)
  · obtain rfl := List.mem_singleton.1 hz
    obtain ⟨a, b, c⟩ := h.ok y (by simp)
    exact ⟨a, by show y.f0 < v; omega, hv⟩
 nf := NFb_last h.nf (by obtain ⟨a, b, c⟩ := h.ok y (by simp); show y.f0 < v; omega)
 mem := fun n => by
  have hm := h.mem n
  have hn := inS_nil n
  obtain ⟨y0, y1, y2⟩ := h.ok y (by simp)
  rw [inS_append, inS_cons] at hm
  rw [inS_append, inS_cons]
  have hm' : inS P n ∨ ((y.f0 ≤ n ∧ n < y.f1) ∨ inS [] n) ↔ 0 ≤ n ∧ n < u ∧ G n = true := hm
  show inS P n ∨ ((y.f0 ≤ n ∧ n < v) ∨ inS [] n) ↔ _
  constructor
  · rintro (a | ⟨a, b⟩ | a)
    · obtain ⟨p, q, r⟩ := hm'.1 (.inl a)
      exact ⟨p, by omega, r⟩
    · by_cases d : n < u
      · obtain ⟨p, q, r⟩ := hm'.1 (.inr (.inl ⟨a, by omega⟩))
        exact ⟨p, by omega, r⟩
      · exact ⟨by omega, b, hG n (by omega) b⟩
    · exact absurd a hn
  · rintro ⟨a, b, c⟩
    by_cases d : n < u
    · rcases hm'.2 ⟨a, d, c⟩ with e | ⟨e, f⟩ | e
      · exact .inl e
      · exact .inr (.inl ⟨e, by omega⟩)
      · exact absurd e hn
    · exact .inr (.inl ⟨by omega, b⟩)
 le := fun z hz => by
  rcases List.mem_append.1 hz with hz | hz
  · have := h.le z (List.mem_append_left _ hz)
    omega
  · obtain rfl := List.mem_singleton.1 hz
    exact Int.le_refl _
 yes := fun _ => ⟨P, _, rfl, rfl⟩
 no := fun e => by cases e
theorem set_last {α : Type} (P : List α) (y z : α) : (P ++ [y]).set P.length z = P ++ [z] := by
 rw [List.set_append_right _ _ (Nat.le_refl _), Nat.sub_self]
 rfl
theorem rd_last (P : List Rg) (y : Rg) (n : Nat) (hn : n = P.length) : rd_T80 (P ++ [y]) (n : Int) = y := by
 subst hn
 rw [rd_rg _ _ (by simp)]
 simp
theorem last_w {n : Nat} (h : n ≤ 100000000) : wrap64 (((n + 1 : Nat) : Int) - 1) = (n : Int) := by unfold wrap64; omega
theorem pick_l (A B : List Ce) (La Lb : List Sp) (hA : A = La.map cl) (hB : B = Lb.map cl) (lA : La.length ≤ 1000000) (lB : Lb.length ≤ 1000000) (how : Int) (op : Bool → Bool → Bool) (c : List Int) (G : Int → Bool) (hG : ∀ n, G n = op (inB La n) (inB Lb n))
 (hop : ∀ (k : Nat) (out : List Rg) (opn : Bool) (i : Nat), i + 1 < c.length → goboref3_pick.l0 (k + 1) A B how c out opn (i : Int) = (goboref3_in.f k A (rd c (i : Int))).bind fun t => (goboref3_in.f k B (rd c (i : Int))).bind fun u => goboref3_pick.j1 k A B how c out opn (i : Int) (op t u))
 (hend : ∀ (k : Nat) (out : List Rg) (opn : Bool) (i : Nat), i + 1 = c.length → goboref3_pick.l0 (k + 1) A B how c out opn (i : Int) = some out)
 (hc : RisB (-1) c) (hGc : ∀ i u v R, c.drop i = u :: v :: R → ∀ n, u ≤ n → n < v → G n = G u) (htop : ∀ e, e ∈ c → e ≤ 1112064) (hmost : 1112064 ∈ c) (hlen : c.length ≤ 10000000) (d : Nat) :
 ∀ (i : Nat) (u : Int) (R : List Int) (O : List Sp) (opn : Bool), c.drop i = u :: R → R.length = d → O.length ≤ i → Inv G u O opn →
  ∃ O', okS O' ∧ NFb (-1) O' ∧ (∀ n, inS O' n ↔ 0 ≤ n ∧ n < 1112064 ∧ G n = true) ∧ Ev (fun k => goboref3_pick.l0 k A B how c (O.map rgS) opn (i : Int)) (O'.map rgS) := by
 induction d with
 | zero =>
  intro i u R O opn hd hR ho hI
  obtain rfl := List.length_eq_zero_iff.1 hR
  obtain ⟨h1, h2, h3, _⟩ := drop_rd hd
  have hu : u = 1112064 := by
   have a := ris_last hc i u hd 1112064 hmost
   have b := htop u (List.mem_of_mem_drop (by rw [hd]; exact List.mem_cons_self ..))
   omega
  refine ⟨O, hI.ok, hI.nf, fun n => by rw [hI.mem, hu], ?_⟩
  exact Ev.step (f := fun _ => some (O.map rgS)) (fun k => hend k _ _ i (by simpa using h3.symm)) (Ev.now _)
 | succ d ih =>
  intro i u R O opn hd hR ho hI
  obtain ⟨v, R, rfl⟩ : ∃ v R', R = v :: R' := by
   cases R with
   | nil => simp at hR
   | cons v R => exact ⟨v, R, rfl⟩
  obtain ⟨h1, h2, h3, h4⟩ := drop_rd hd
  rw [List.length_cons] at h3 hR
  obtain ⟨_, h6, h7, _⟩ := drop_rd h4
  obtain ⟨huv, _⟩ := ris_gap hc i u v R hd
  have hu0 := ris_mem hc u (List.mem_of_mem_drop (by rw [hd]; exact List.mem_cons_self ..))
  have hv := htop v (List.mem_of_mem_drop (by rw [hd]; simp))
  have hGu := hGc i u v R hd
  have b0 : i ≤ 100000000 := by omega
  have b1 : (0 : Int) ≤ (i : Int) := by omega
  have b2 : (i : Int) < (c.length : Int) := by omega
  have b3 : (0 : Int) ≤ ((i + 1 : Nat) : Int) := by omega
  have b4 : ((i + 1 : Nat) : Int) < (c.length : Int) := by omega
  have b5 : (O.map rgS).length < 17592186044416 := by rw [List.length_map]; omega
  have b6 : R.length = d := by omega
  have b7 : i + 1 < c.length := by omega
  have b8 : O.length ≤ i + 1 := by omega
  have b9 : 0 ≤ u := by omega
  have a0 : u < 1112064 := by omega
  have a1 : 0 ≤ v - 1 := by omega
  have a2 : v - 1 < 1112064 := by omega
  have eat : goboref3_at.f u = some (valS u) := at_val b9 a0
  have eat1 : goboref3_at.f (wrap64 (v - 1)) = some (valS (wrap64 (v - 1))) := by rw [w64_32 (by omega) (by omega)]; exact at_val a1 a2
  have E2 := Aside0.mk h2
  have E6 := Aside0.mk h6
  have E1 := Aside0.mk (wsucc b0)
  clear h2 h6
  -- behind the test of the place
  have key : ∃ O', okS O' ∧ NFb (-1) O' ∧ (∀ n, inS O' n ↔ 0 ≤ n ∧ n < 1112064 ∧ G n = true) ∧ Ev (fun k => goboref3_pick.j1 k A B how c (O.map rgS) opn (i : Int) (G u)) (O'.map rgS) := by
   cases hg : G u
   · obtain ⟨O', o1, o2, o3, o4⟩ := ih (i + 1) v R O false h4 b6 b8 (hI.skip huv (fun n a b => (hGu n a b).trans hg))
     refine ⟨O', o1, o2, o3, ?_⟩
     refine Ev.step (f := fun k => goboref3_pick.j2 k A B how c (O.map rgS) (i : Int) false false) (fun k => by simp only [goboref3_pick.j1]; rw [if_neg (by decide)]) ?_
     refine Ev.step (f := fun k => goboref3_pick.l0 k A B how c (O.map rgS) false ((i + 1 : Nat) : Int)) (fun k => ?_) o4
     simp only [goboref3_pick.j2]
     rw [if_neg (by decide), if_neg (by decide), E1.out]
   · have hGt : ∀ n, u ≤ n → n < v → G n = true := fun n a b => (hGu n a b).trans hg
     cases opn
     · obtain ⟨O', o1, o2, o3, o4⟩ := ih (i + 1) v R (O ++ [⟨u, v⟩]) true h4 b6 (by rw [List.length_append, List.length_singleton]; omega) (hI.fresh b9 huv hv hGt)
       refine ⟨O', o1, o2, o3, ?_⟩
       refine Ev.step (f := fun k => goboref3_pick.j2 k A B how c (O.map rgS) (i : Int) true true) (fun k => by simp only [goboref3_pick.j1]; rw [if_pos trivial]; rfl) ?_
       refine Ev.step (f := fun k => goboref3_pick.l0 k A B how c ((O ++ [(⟨u, v⟩ : Sp)]).map rgS) true ((i + 1 : Nat) : Int)) (fun k => ?_) o4
       have el : wrap64 (((O.map rgS ++ [(⟨valS u, 0⟩ : Rg)]).length : Int) - 1) = ((O.length : Nat) : Int) := by
        rw [List.length_append, List.length_map, List.length_singleton]
        exact last_w (by omega)
       simp only [goboref3_pick.j2]
       rw [if_pos trivial, if_pos b1, if_pos b2, E2.out, eat, Option.bind_some, if_pos b5, Option.bind_some, if_pos trivial, E1.out, if_pos b3, if_pos b4, E6.out, eat1, Option.bind_some, el, if_pos (Int.natCast_nonneg _), if_pos (by rw [List.length_append, List.length_map, List.length_singleton]; exact Int.ofNat_lt.2 (Nat.lt_succ_self _)),
        rd_last (O.map rgS) ⟨valS u, 0⟩ O.length (by rw [List.length_map]), Int.toNat_natCast]
       have hs := set_last (O.map rgS) (⟨valS u, 0⟩ : Rg) (⟨valS u, valS (wrap64 (v - 1))⟩ : Rg)
       rw [List.length_map] at hs
       rw [hs, List.map_append]
       rfl
     · obtain ⟨P, y, rfl, hy⟩ := hI.yes rfl
       rw [List.length_append, List.length_singleton] at ho
       obtain ⟨O', o1, o2, o3, o4⟩ := ih (i + 1) v R (P ++ [⟨y.f0, v⟩]) true h4 b6 (by rw [List.length_append, List.length_singleton]; omega) (hI.more hy huv hv hGt)
       refine ⟨O', o1, o2, o3, ?_⟩
       refine Ev.step (f := fun k => goboref3_pick.j2 k A B how c ((P ++ [y]).map rgS) (i : Int) true false) (fun k => by simp only [goboref3_pick.j1]; rw [if_pos trivial]; rfl) ?_
       refine Ev.step (f := fun k => goboref3_pick.l0 k A B how c ((P ++ [(⟨y.f0, v⟩ : Sp)]).map rgS) true ((i + 1 : Nat) : Int)) (fun k => ?_) o4
       have em : (P ++ [y]).map rgS = P.map rgS ++ [rgS y] := by rw [List.map_append]; rfl
       have el : wrap64 (((P.map rgS ++ [rgS y]).length : Int) - 1) = ((P.length : Nat) : Int) := by
        rw [List.length_append, List.length_map, List.length_singleton]
        exact last_w (by omega)
       simp only [goboref3_pick.j2]
       rw [if_neg (by decide), if_pos trivial, E1.out, if_pos b3, if_pos b4, E6.out, eat1, Option.bind_some, em, el, if_pos (by omega), if_pos (by rw [List.length_append, List.length_map, List.length_singleton]; omega),
        rd_last (P.map rgS) (rgS y) P.length (by rw [List.length_map]), Int.toNat_natCast]
       have hs := set_last (P.map rgS) (rgS y) (⟨(rgS y).f0, valS (wrap64 (v - 1))⟩ : Rg)
       rw [List.length_map] at hs
       rw [hs, List.map_append]
       rfl
  obtain ⟨O', o1, o2, o3, o4⟩ := key
  refine ⟨O', o1, o2, o3, ?_⟩
  refine Ev.step (f := fun k => (goboref3_in.f k A u).bind fun t => (goboref3_in.f k B u).bind fun w => goboref3_pick.j1 k A B how c (O.map rgS) opn (i : Int) (op t w)) (fun k => by rw [hop k _ _ i b7, E2.out]) ?_
  have iA := in_ev La lA u
  have iB := in_ev Lb lB u
  rw [← hA] at iA
  rw [← hB] at iB
  refine Ev.bind iA (Ev.bind iB ?_)
  rw [← hG u]
  exact o4
theorem pick_ev (La Lb : List Sp) (oA : okS La) (oB : okS Lb) (lA : La.length ≤ 1000000) (lB : Lb.length ≤ 1000000 - 1000) (lAB : La.length + Lb.length ≤ 900000) (how : Int) (op : Bool → Bool → Bool)
 (hop : ∀ (A B : List Ce) (c : List Int) (k : Nat) (out : List Rg) (opn : Bool) (i : Nat), i + 1 < c.length → c.length ≤ 10000000 → goboref3_pick.l0 (k + 1) A B how c out opn (i : Int) = (goboref3_in.f k A (rd c (i : Int))).bind fun t => (goboref3_in.f k B (rd c (i : Int))).bind fun u => goboref3_pick.j1 k A B how c out opn (i : Int) (op t u)) :
 ∃ O, okS O ∧ NFb (-1) O ∧ (∀ n, inS O n ↔ 0 ≤ n ∧ n < 1112064 ∧ op (inB La n) (inB Lb n) = true) ∧ Ev (fun k => goboref3_pick.f k (La.map cl) (Lb.map cl) how) (O.map rgS) := by
 obtain ⟨T, hT⟩ : ∃ T : List Sp, T = (⟨0, 1112064⟩ :: La) ++ Lb := ⟨_, rfl⟩
 have hTm : ([(⟨0, 1112064⟩ : Ce)] ++ La.map cl) ++ Lb.map cl = T.map cl := by rw [hT]; simp [cl]
 have oT : okS T := fun x hx => by
  rw [hT] at hx
  rcases List.mem_append.1 hx with hx | hx
  · rcases List.mem_cons.1 hx with rfl | hx
    · exact ⟨Int.le_refl _, by decide, Int.le_refl _⟩
    · exact oA x hx
  · exact oB x hx
 have lT : T.length ≤ 1000000 := by rw [hT]; simp; omega
 obtain ⟨c, hc⟩ : ∃ c, insAll (endsL T) [] = c := ⟨_, rfl⟩
 have hmem : ∀ e, e ∈ c ↔ e ∈ endsL T := fun e => by rw [← hc, insAll_mem]; simp
 have hb : ∀ e, e ∈ c → -1 < e ∧ e ≤ 1112064 := fun e he => by
  obtain ⟨x, hx, hxe⟩ := endsL_of e T ((hmem e).1 he)
  have := oT x hx
  omega
 have hris : RisB (-1) c := by
  rw [← hc]
  exact insAll_ris _ _ _ (fun e he => (hb e ((hmem e).2 he)).1) trivial
 have hclen : c.length ≤ 10000000 := by
  have := insAll_len (endsL T) []
  rw [endsL_len, List.length_nil, hc] at this
  omega
 have hT0 : (⟨0, 1112064⟩ : Sp) ∈ T := by rw [hT]; simp
 have hm0 : (0 : Int) ∈ c := (hmem 0).2 (endsL_mem _ T hT0).1
 have hm1 : (1112064 : Int) ∈ c := (hmem 1112064).2 (endsL_mem _ T hT0).2
 have hmA : ∀ x, x ∈ La → x.f0 ∈ c ∧ x.f1 ∈ c := fun x hx => by
  obtain ⟨a, b⟩ := endsL_mem x T (by rw [hT]; simp [hx])
  exact ⟨(hmem _).2 a, (hmem _).2 b⟩
 have hmB : ∀ x, x ∈ Lb → x.f0 ∈ c ∧ x.f1 ∈ c := fun x hx => by
  obtain ⟨a, b⟩ := endsL_mem x T (by rw [hT]; simp [hx])
  exact ⟨(hmem _).2 a, (hmem _).2 b⟩
 obtain ⟨u, R, hcu⟩ : ∃ u R, c = u :: R := by
  cases c with
  | nil => cases hm0
  | cons u R => exact ⟨u, R, rfl⟩
 have hu : u = 0 := by
  have a := hb u (by rw [hcu]; simp)
  rw [hcu] at hm0 hris
  rcases List.mem_cons.1 hm0 with h | h
  · exact h.symm
  · have := ris_mem hris.2 0 h
    omega
 have hend : ∀ (k : Nat) (out : List Rg) (opn : Bool) (i : Nat), i + 1 = c.length → goboref3_pick.l0 (k + 1) (La.map cl) (Lb.map cl) how c out opn (i : Int) = some out := fun k out opn i hi => by
  simp only [goboref3_pick.l0]
  rw [wsucc (i := i) (by omega), if_neg (by omega)]
 obtain ⟨O, o1, o2, o3, o4⟩ := pick_l (La.map cl) (Lb.map cl) La Lb rfl rfl lA (by omega) how op c (fun n => op (inB La n) (inB Lb n)) (fun _ => rfl) (fun k out opn i hi => hop _ _ c k out opn i hi hclen) hend hris
  (fun i u v R hd n h0 h1 => by
   obtain ⟨_, hg⟩ := ris_gap hris i u v R hd
   show op _ _ = op _ _
   rw [inB_const hmA hg h0 h1, inB_const hmB hg h0 h1]) (fun e he => (hb e he).2) hm1 hclen R.length 0 u R [] false (by rw [hcu]; rfl) rfl (Nat.le_refl _)
  ⟨(fun x hx => by cases hx), trivial, fun n => ⟨fun h => absurd h (inS_nil n), fun h => by omega⟩, (fun y hy => by cases hy), (fun e => by cases e), (fun _ y hy => by cases hy)⟩
 refine ⟨O, o1, o2, o3, ?_⟩
 have hcut := cuts_ev T lT
 rw [hc] at hcut
 refine Ev.congr (f := fun k => (goboref3_cuts.f k (T.map cl)).bind fun t => goboref3_pick.l0 k (La.map cl) (Lb.map cl) how t ([] : List Rg) false 0) (fun k => ?_) (Ev.bind hcut o4)
 unfold goboref3_pick.f
 rw [Option.bind_some, if_pos (by simp; omega), Option.bind_some, if_pos (by simp; omega), hTm]
theorem pick_is {O : List Sp} {m : List Rg} (o1 : okS O) (o2 : NFb (-1) O) (hm : NFl m) (h : ∀ o, isS o = true → (inS O (numS o) ↔ hasS m o = true)) : O.map rgS = m :=
 NFl_ext ⟨O, o1, o2, rfl⟩ hm (fun o => by
  cases ho : isS o
  · unfold hasS
    rw [ho]
    rfl
  · rw [Bool.eq_iff_iff, has_rg o1 ho]
    exact h o ho)
theorem inB_has {l : List Rg} (h : okR l = true) {o : Int} (ho : isS o = true) : inB (rawS l) (numS o) = hasS l o := by
 rw [Bool.eq_iff_iff, inB_iff, has_raw h ho]
theorem hop1 (A B : List Ce) (c : List Int) (k : Nat) (out : List Rg) (opn : Bool) (i : Nat) (h : i + 1 < c.length) (hl : c.length ≤ 10000000) : goboref3_pick.l0 (k + 1) A B 1 c out opn (i : Int) = (goboref3_in.f k A (rd c (i : Int))).bind fun t => (goboref3_in.f k B (rd c (i : Int))).bind fun u => goboref3_pick.j1 k A B 1 c out opn (i : Int) t := by
 simp only [goboref3_pick.l0]
 rw [wsucc (i := i) (by omega), if_pos (by omega), if_pos (by omega), if_pos (by omega)]
 congr 1
 funext t
 congr 1
 funext u
 cases t <;> cases u <;> simp
theorem ref_norm {l : List Rg} (h : okR l = true) (hl : l.length ≤ 100000) : Ev (fun k => goboref3_Norm.f k l) (normS l) := by
 have hr := rawS_len l
 obtain ⟨O, o1, o2, o3, o4⟩ := pick_ev (rawS l) [] (raw_ok h) (fun x hx => by cases hx) (by omega) (by simp) (by simp; omega) 1 (fun t _ => t) hop1
 have hO : O.map rgS = normS l := pick_is o1 o2 (NFl_norm h) (fun o ho => by
  obtain ⟨_, n0, n1⟩ := num_val ho
  rw [o3, has_norm h, ← inB_has h ho]
  constructor
  · exact fun q => q.2.2
  · exact fun q => ⟨n0, n1, q⟩)
 rw [hO] at o4
 unfold goboref3_Norm.f
 exact Ev.bind (cells_ev l h) (ev_bind1 o4)
theorem rsame_l (l m : List Rg) (hlm : l.length = m.length) (hl : l.length ≤ 1000000) (d : Nat) : ∀ i : Nat, i ≤ l.length → l.length - i = d → Ev (fun k => goboref3_Same.l0 k l m (i : Int)) (eqS (l.drop i) (m.drop i)) := by
 induction d with
 | zero =>
  intro i h1 h2
  refine Ev.step (f := fun _ => some true) (fun k => ?_) ?_
  · simp only [goboref3_Same.l0]
    rw [if_neg (by omega)]
  · rw [List.drop_of_length_le (by omega), List.drop_of_length_le (by omega)]
    exact Ev.now _
 | succ d ih =>
  intro i h1 h2
  have hi : i < l.length := by omega
  have hj : i < m.length := by omega
  have e2 := wsucc (i := i) (by omega)
  have hn := ih (i + 1) (by omega) (by omega)
  have r1 := rd_rg l i hi
  have r2 := rd_rg m i hj
  have d1 := List.drop_eq_getElem_cons hi
  have d2 := List.drop_eq_getElem_cons hj
  obtain ⟨x, hx⟩ : ∃ x, l[i] = x := ⟨_, rfl⟩
  obtain ⟨y, hy⟩ : ∃ y, m[i] = y := ⟨_, rfl⟩
  rw [hx] at r1 d1
  rw [hy] at r2 d2
  by_cases c : x.f0 = y.f0 ∧ x.f1 = y.f1
  · obtain ⟨c0, c1⟩ := c
    refine Ev.step (f := fun k => goboref3_Same.l0 k l m ((i + 1 : Nat) : Int)) (fun k => ?_) ?_
    · simp only [goboref3_Same.l0]
      rw [if_pos (by omega), if_pos (by omega), if_pos (by omega), r1, r2, if_neg (by simp [c0, c1]), e2]
    · rw [d1, d2]
      simp only [eqS, c0, c1, beq_self_eq_true, Bool.true_and]
      exact hn
  · refine Ev.step (f := fun _ => some false) (fun k => ?_) ?_
    · simp only [goboref3_Same.l0]
      rw [if_pos (by omega), if_pos (by omega), if_pos (by omega), r1, r2, if_pos]
      simp only [Bool.or_eq_true, Bool.not_eq_true', beq_eq_false_iff_ne]
      by_cases c0 : x.f0 = y.f0
      · exact .inr (fun c1 => c ⟨c0, c1⟩)
      · exact .inl c0
    · have : eqS (l.drop i) (m.drop i) = false := by
       rw [Bool.eq_false_iff]
       intro he
       have he2 := (eqS_iff _ _).1 he
       rw [d1, d2] at he2
       injection he2 with h3 _
       subst h3
       exact c ⟨rfl, rfl⟩
      rw [this]
      exact Ev.now _
theorem ref_same (l m : List Rg) (hl : l.length ≤ 1000000) : Ev (fun k => goboref3_Same.f k l m) (eqS l m) := by
 unfold goboref3_Same.f
 by_cases h : l.length = m.length
 · exact ev_if (by omega) (rsame_l l m h hl l.length 0 (by omega) (by omega))
 · rw [eqS_len l m h]
   exact ev_else (by omega) (Ev.now _)
theorem ref_may {l : List Rg} (h : okR l = true) (hl : l.length ≤ 100000) : Ev (fun k => goboref3_May.f k l) (eqS l (normS l)) := by
 unfold goboref3_May.f
 exact Ev.bind (ref_norm h hl) (ev_bind1 (ref_same l _ (by omega)))
end Go.Proofs.YthdfmbmbjpmlaaaGreatDoor.Rn
end
section
set_option linter.unusedVariables false
set_option linter.unusedSimpArgs false
namespace Go.Proofs.YthdfmbmbjpmlaaaGreatDoor.Rn
open Go Go.RowKit Go.Proofs.YthdfmbmbjpmlaaaGreatDoorW.PrintWords Go.Proofs.YthdfmbmbjpmlaaaGreatDoorW.PrintLast Go.Proofs.YthdfmbmbjpmlaaaGreatDoorW.PrintMore
theorem may3_any (l : List Rg) (h : rgOk l = true) (hl : l.length ≤ 100000) (A : Option Addr) (c : Nat) (W : World) (hC : k80.C W A l.length l) (hc : l.length ≤ c) :
 Calls Tryz.prog 73 #[.slice A l.length c] W fun e W' => e = .returned (.bool (eqS l (normS l))) ∧ Below W.heap.size W W' := by
 obtain ⟨K, hK⟩ := ref_may (okR_of h (by omega)) hl
 exact goboref3_May.calls K A c l _ W hC hc (hK K (Nat.le_refl K))
theorem mayL_at {l : List RE} {m : Nat} {x : RE} (h : l[m]? = some x) : mayL (l.drop m) = (mayR x && mayL (l.drop (m + 1))) := by
 have hlt := (List.getElem?_eq_some_iff.1 h).1
 obtain rfl : l[m] = x := (List.getElem?_eq_some_iff.1 h).2
 rw [List.drop_eq_getElem_cons hlt, mayL]
def RPartC (x : RE) : Prop := ∀ (w0 W : World) (cs : List Value), Below w0.heap.size w0 W → k38.K w0 x cs → okT x = true →
    Calls Tryz.prog 54 #[.agg cs.toArray] W fun e W' => e = .returned (.bool (mayR x)) ∧ Below W.heap.size W W'
set_option maxHeartbeats 40000000 in
set_option maxRecDepth 100000 in
theorem rpart_go (x : RE) (hx : ∀ y, y ∈ x.f2 → RPartC y) : RPartC x := fun w0 W cs hB hK0 hok => by
 obtain ⟨A1, c1, A3, c3, rfl, l1, C1, l3, C3⟩ := k38_open hK0
 have HX := Aside0.mk hx
 have HC1 := Aside0.mk (Kd.C_below C1 hB)
 have HC3 := Aside0.mk (Kd.C_below C3 hB)
 have hl3 : x.f2.length ≤ 9223372036854775807 := C3.2.1
 have HOK : Aside0 (rgOk x.f1 = true ∧ okL x.f2 = true) := ⟨by cases x; simpa [okT] using hok⟩
 obtain ⟨res, hres⟩ : ∃ r, mayR x = r := ⟨_, rfl⟩
 have HR : Aside0 ((decide ((x.f2.length : Int) = partsS x.f0) && mayL x.f2 && ownS x.f0 x.f1) = res) := ⟨by rw [← hres]; cases x; rw [mayR]⟩
 rw [hres]
 clear hx C1 C3 hres hK0 hB hok
 go_enter Tryz.func54, Tryz.ntmps54
 go_upto_region 1 with (fail)
 obtain ⟨w1, hw1⟩ : ∃ z, W.alloc (.cells #[.int .i64 x.f0, .slice A1 x.f1.length c1, .slice A3 x.f2.length c3] 38) = z := ⟨_, rfl⟩
 obtain ⟨bg, hbg⟩ : ∃ z, W.heap.size = z := ⟨_, rfl⟩
 have HB0 : Aside0 (Below W.heap.size W w1) := ⟨hw1 ▸ below1 _ _⟩
 have HKP : Aside0 (w1.heap[bg]? = some (.cells #[.int .i64 x.f0, .slice A1 x.f1.length c1, .slice A3 x.f2.length c3] 38 (0, 0))) := ⟨by rw [← hw1, ← hbg]; exact blk_new _ _⟩
 rw [hw1, hbg]
 clear hw1 hbg
 have y0 : w1.cell? ⟨bg, 0, none⟩ = some (.int .i64 x.f0) := (blk_cell HKP.out 0).trans rfl
 have y1 : w1.cell? ⟨bg, 1, none⟩ = some (.slice A1 x.f1.length c1) := (blk_cell HKP.out 1).trans rfl
 go_upto_block 0 with (fail)
 go_cut [3] (fun v w' => ∃ n : Int, v = .int .i64 n ∧ Aside0 (Below w1.heap.size w1 w' ∧ partsS x.f0 = n ∧ (x.f0 = 2 → (decide (1 ≤ (x.f1.length : Int)) && decide ((x.f1.length : Int) ≤ 20) && eqS x.f1 (normS x.f1)) = true)))
 case first =>
  have hk : x.f0 = 0 ∨ x.f0 = 1 ∨ x.f0 = 2 ∨ x.f0 = 3 ∨ x.f0 = 4 ∨ x.f0 = 5 ∨ ¬ (x.f0 = 0 ∨ x.f0 = 1 ∨ x.f0 = 2 ∨ x.f0 = 3 ∨ x.f0 = 4 ∨ x.f0 = 5) := by omega
  rcases hk with hk | hk | hk | hk | hk | hk | hk
  · skip
    have t0 : (x.f0 == 0) = true := beq_iff_eq.2 (by omega)
    have HV : Aside0 (partsS x.f0 = 0 ∧ x.f0 ≠ 2) := ⟨by rw [hk]; decide⟩
    clear hk
    go_wp2
    go_meet
    case rel => exact ⟨0, rfl, ⟨⟨Below.refl _ _, HV.out.1, fun h => absurd h HV.out.2⟩⟩⟩
  · skip
    have t0 : (x.f0 == 0) = false := beq_eq_false_iff_ne.2 (by omega)
    have t1 : (x.f0 == 1) = true := beq_iff_eq.2 (by omega)
    have HV : Aside0 (partsS x.f0 = 0 ∧ x.f0 ≠ 2) := ⟨by rw [hk]; decide⟩
    clear hk
    go_wp2
    go_meet
    case rel => exact ⟨0, rfl, ⟨⟨Below.refl _ _, HV.out.1, fun h => absurd h HV.out.2⟩⟩⟩
  · skip
    have t0 : (x.f0 == 0) = false := beq_eq_false_iff_ne.2 (by omega)
    have t1 : (x.f0 == 1) = false := beq_eq_false_iff_ne.2 (by omega)
    have t2 : (x.f0 == 2) = true := beq_iff_eq.2 (by omega)
    have HV : Aside0 (partsS x.f0 = 0) := ⟨by rw [hk]; decide⟩
    have HF : Aside0 (ownS x.f0 x.f1 = false → res = false) := ⟨fun h => by rw [← HR.out, h, Bool.and_false]⟩
    have HOW : Aside0 (ownS x.f0 x.f1 = (decide (1 ≤ (x.f1.length : Int)) && decide ((x.f1.length : Int) ≤ 20) && eqS x.f1 (normS x.f1))) := ⟨if_pos hk⟩
    clear hk
    by_cases h1 : x.f1.length < 1
    · have d1 : decide (x.f1.length < 1) = true := decide_eq_true h1
      have d1z : decide ((x.f1.length : Int) < 1) = true := decide_eq_true (by omega)
      have HRR : Aside0 (res = false) := ⟨HF.out (by rw [HOW.out, show decide (1 ≤ (x.f1.length : Int)) = false from decide_eq_false (by omega)]; rfl)⟩
      have hz : x.f1.length = 0 := by omega
      clear h1 hz
      go_wp2
      go_ret
      rw [HRR.out]
      exact ⟨rfl, HB0.out⟩
    have d1 : decide (x.f1.length < 1) = false := decide_eq_false h1
    have d1z : decide ((x.f1.length : Int) < 1) = false := decide_eq_false (by omega)
    by_cases h2 : 20 < x.f1.length
    · have d2 : decide (20 < x.f1.length) = true := decide_eq_true h2
      have d2z : decide (20 < (x.f1.length : Int)) = true := decide_eq_true (by omega)
      have HRR : Aside0 (res = false) := ⟨HF.out (by rw [HOW.out, show decide ((x.f1.length : Int) ≤ 20) = false from decide_eq_false (by omega), Bool.and_false]; rfl)⟩
      go_wp2
      go_ret
      rw [HRR.out]
      exact ⟨rfl, HB0.out⟩
    have d2 : decide (20 < x.f1.length) = false := decide_eq_false h2
    have d2z : decide (20 < (x.f1.length : Int)) = false := decide_eq_false (by omega)
    have HO2 : Aside0 (ownS x.f0 x.f1 = eqS x.f1 (normS x.f1)) := ⟨by rw [HOW.out, show decide (1 ≤ (x.f1.length : Int)) = true from decide_eq_true (by omega), show decide ((x.f1.length : Int) ≤ 20) = true from decide_eq_true (by omega)]; rfl⟩
    have h20 : x.f1.length ≤ 100000 := by omega
    go_wp2_with fail
    refine (may3_any x.f1 HOK.out.1 h20 A1 c1 w1 (Kd.C_below HC1.out HB0.out) l1).mono ?_
    rintro e w2 ⟨rfl, hb⟩
    have HB2 := Aside0.mk hb
    clear hb y0 y1 d1 d1z d2 d2z
    cases hm : eqS x.f1 (normS x.f1)
    · have HRR : Aside0 (res = false) := ⟨HF.out (HO2.out.trans hm)⟩
      clear hm
      go_wp2
      go_ret
      rw [HRR.out]
      exact ⟨rfl, join_below HB0.out HB2.out⟩
    · have HOK2 : Aside0 ((decide (1 ≤ (x.f1.length : Int)) && decide ((x.f1.length : Int) ≤ 20) && eqS x.f1 (normS x.f1)) = true) := ⟨by rw [← HOW.out, HO2.out, hm]⟩
      clear hm
      go_wp2
      go_meet
      case rel => exact ⟨0, rfl, ⟨⟨HB2.out, HV.out, fun _ => HOK2.out⟩⟩⟩
  · skip
    have t0 : (x.f0 == 0) = false := beq_eq_false_iff_ne.2 (by omega)
    have t1 : (x.f0 == 1) = false := beq_eq_false_iff_ne.2 (by omega)
    have t2 : (x.f0 == 2) = false := beq_eq_false_iff_ne.2 (by omega)
    have t3 : (x.f0 == 3) = true := beq_iff_eq.2 (by omega)
    have HV : Aside0 (partsS x.f0 = 2 ∧ x.f0 ≠ 2) := ⟨by rw [hk]; decide⟩
    clear hk
    go_wp2
    go_meet
    case rel => exact ⟨2, rfl, ⟨⟨Below.refl _ _, HV.out.1, fun h => absurd h HV.out.2⟩⟩⟩
  · skip
    have t0 : (x.f0 == 0) = false := beq_eq_false_iff_ne.2 (by omega)
    have t1 : (x.f0 == 1) = false := beq_eq_false_iff_ne.2 (by omega)
    have t2 : (x.f0 == 2) = false := beq_eq_false_iff_ne.2 (by omega)
    have t3 : (x.f0 == 3) = false := beq_eq_false_iff_ne.2 (by omega)
    have t4 : (x.f0 == 4) = true := beq_iff_eq.2 (by omega)
    have HV : Aside0 (partsS x.f0 = 2 ∧ x.f0 ≠ 2) := ⟨by rw [hk]; decide⟩
    clear hk
    go_wp2
    go_meet
    case rel => exact ⟨2, rfl, ⟨⟨Below.refl _ _, HV.out.1, fun h => absurd h HV.out.2⟩⟩⟩
  · skip
    have t0 : (x.f0 == 0) = false := beq_eq_false_iff_ne.2 (by omega)
    have t1 : (x.f0 == 1) = false := beq_eq_false_iff_ne.2 (by omega)
    have t2 : (x.f0 == 2) = false := beq_eq_false_iff_ne.2 (by omega)
    have t3 : (x.f0 == 3) = false := beq_eq_false_iff_ne.2 (by omega)
    have t4 : (x.f0 == 4) = false := beq_eq_false_iff_ne.2 (by omega)
    have t5 : (x.f0 == 5) = true := beq_iff_eq.2 (by omega)
    have HV : Aside0 (partsS x.f0 = 1 ∧ x.f0 ≠ 2) := ⟨by rw [hk]; decide⟩
    clear hk
    go_wp2
    go_meet
    case rel => exact ⟨1, rfl, ⟨⟨Below.refl _ _, HV.out.1, fun h => absurd h HV.out.2⟩⟩⟩
  · skip
    have t0 : (x.f0 == 0) = false := beq_eq_false_iff_ne.2 (by omega)
    have t1 : (x.f0 == 1) = false := beq_eq_false_iff_ne.2 (by omega)
    have t2 : (x.f0 == 2) = false := beq_eq_false_iff_ne.2 (by omega)
    have t3 : (x.f0 == 3) = false := beq_eq_false_iff_ne.2 (by omega)
    have t4 : (x.f0 == 4) = false := beq_eq_false_iff_ne.2 (by omega)
    have t5 : (x.f0 == 5) = false := beq_eq_false_iff_ne.2 (by omega)
    have HRR : Aside0 (res = false) := ⟨by
     rw [← HR.out, show partsS x.f0 = -1 from by unfold partsS; rw [if_neg (by omega), if_neg (by omega), if_neg (by omega)], show decide ((x.f2.length : Int) = -1) = false from decide_eq_false (by omega)]
     rfl⟩
    clear hk
    go_wp2
    go_ret
    rw [HRR.out]
    exact ⟨rfl, HB0.out⟩
 case rest =>
  obtain ⟨n, rfl, HV⟩ := hcut
  obtain ⟨w2, hw2⟩ : ∃ z, wc = z := ⟨_, rfl⟩
  rw [hw2] at HV ⊢
  clear hw2 y0 y1
  have HB2 := Aside0.mk (join_below HB0.out HV.out.1)
  have HKP2 := Aside0.mk (blk_below HKP.out HV.out.1)
  have HOW : Aside0 (ownS x.f0 x.f1 = (x.f0 == 2 || !decide (0 < x.f1.length))) := ⟨by
   unfold ownS
   by_cases h : x.f0 = 2
   · rw [if_pos h, HV.out.2.2 h, beq_iff_eq.2 h]; rfl
   · rw [if_neg h, beq_eq_false_iff_ne.2 h, Bool.false_or]
     by_cases h0 : 0 < x.f1.length
     · rw [decide_eq_true h0]; exact beq_eq_false_iff_ne.2 (by omega)
     · rw [decide_eq_false h0]; exact beq_iff_eq.2 (by omega)⟩
  have HR2 : Aside0 ((decide ((x.f2.length : Int) = n) && mayL x.f2 && (x.f0 == 2 || !decide (0 < x.f1.length))) = res) := ⟨by rw [← HR.out, HOW.out, HV.out.2.1]⟩
  have y0 : w2.cell? ⟨bg, 0, none⟩ = some (.int .i64 x.f0) := (blk_cell HKP2.out 0).trans rfl
  have y1 : w2.cell? ⟨bg, 1, none⟩ = some (.slice A1 x.f1.length c1) := (blk_cell HKP2.out 1).trans rfl
  have y2 : w2.cell? ⟨bg, 2, none⟩ = some (.slice A3 x.f2.length c3) := (blk_cell HKP2.out 2).trans rfl
  clear HR HOW
  by_cases hq : (x.f2.length : Int) = n
  case neg =>
   have hq2 : ((x.f2.length : Int) == n) = false := beq_eq_false_iff_ne.2 hq
   have HRR : Aside0 (res = false) := ⟨by rw [← HR2.out, decide_eq_false hq]; rfl⟩
   go_wp2
   go_ret
   rw [HRR.out]
   exact ⟨rfl, HB2.out⟩
  have HR3 : Aside0 ((mayL (x.f2.drop 0) && (x.f0 == 2 || !decide (0 < x.f1.length))) = res) := ⟨by rw [← HR2.out, decide_eq_true hq, Bool.true_and]; rfl⟩
  obtain rfl := hq
  by_cases h2 : x.f0 = 2
  case pos =>
   have t2 : (x.f0 == 2) = true := beq_iff_eq.2 h2
   have t2b : (x.f0 != 2) = false := by rw [bne, t2]; rfl
   have HR4 : Aside0 (mayL (x.f2.drop 0) = res) := ⟨by rw [← HR3.out, t2, Bool.true_or, Bool.and_true]⟩
   clear h2
   go_wp2_with fail
   clear t2 t2b y0 y1 y2
   go_loopw [4] (fun i w => ∃ m : Nat, i = .int .i64 (m : Int) ∧ m ≤ x.f2.length ∧ Aside0 (Below w2.heap.size w2 w ∧ mayL (x.f2.drop m) = res)) (fun i _ => x.f2.length - (intOf i).toNat)
   case atStart => exact ⟨0, rfl, Nat.zero_le _, ⟨⟨Below.refl _ _, HR4.out⟩⟩⟩
   case round =>
    obtain ⟨m, rfl, hm, HS⟩ := hrel
    obtain ⟨w4, hw4⟩ : ∃ z, wr = z := ⟨_, rfl⟩
    rw [hw4] at HS ⊢
    clear hw4
    have HB4 := Aside0.mk (join_below HB2.out HS.out.1)
    by_cases hlt : m < x.f2.length
    · have e1 : decide (m < x.f2.length) = true := decide_eq_true hlt
      have hil : (m : Int) < x.f2.length := by omega
      obtain ⟨g, og, hA, _, hcell⟩ := row_cells HC3.out (by omega) (by decide)
      subst hA
      have y3 : w4.cell? ⟨bg, 2, none⟩ = some (.slice (some ⟨g, og, none⟩) x.f2.length c3) := (blk_cell (blk_below HKP2.out HS.out.1) 2).trans rfl
      obtain ⟨y, hy⟩ : ∃ y, x.f2[m]? = some y := ⟨_, List.getElem?_eq_getElem hlt⟩
      obtain ⟨cs, _, hK, hcc⟩ := hcell m y hy
      have HKY := Aside0.mk hK
      obtain ⟨B1, d1, B3, d3, rfl, _, _, _, _⟩ := k38_open hK
      have z0 := cell_after HB4.out (hcc 0 (.int .i64 y.f0) rfl)
      have z1 := cell_after HB4.out (hcc 1 (.slice B1 y.f1.length d1) rfl)
      have z2 := cell_after HB4.out (hcc 2 (.slice B3 y.f2.length d3) rfl)
      simp only [Nat.add_zero, show k38.sz = 3 from rfl] at z0 z1 z2
      have HLT := Aside0.mk hlt
      have HAT := Aside0.mk ((mayL_at hy).symm.trans HS.out.2)
      have HCA := Aside0.mk (HX.out y (List.mem_of_getElem? hy) W w4 _ HB4.out HKY.out (okL_mem HOK.out.2 y (List.mem_of_getElem? hy)))
      clear hcell hcc hK hy hlt
      go_wp2_with fail
      refine HCA.out.mono ?_
      rintro e w5 ⟨rfl, hd⟩
      have HB5 := Aside0.mk hd
      clear hd z0 z1 z2 y3 e1 HCA
      cases hmy : mayR y
      · have HRR : Aside0 (res = false) := ⟨by rw [← HAT.out, hmy]; rfl⟩
        clear hmy
        go_wp2
        go_ret
        rw [HRR.out]
        exact ⟨rfl, join_below HB4.out HB5.out⟩
      · have HA2 : Aside0 (mayL (x.f2.drop (m + 1)) = res) := ⟨by rw [← HAT.out, hmy]; rfl⟩
        clear hmy
        go_wp2
        go_roundw
        case rel => exact ⟨m + 1, by go_num, HLT.out, ⟨⟨join_below HS.out.1 HB5.out, HA2.out⟩⟩⟩
        case measure => have := HLT.out; simp [intOf]; omega
    · have e1 : decide (m < x.f2.length) = false := decide_eq_false hlt
      have HRR : Aside0 (res = true) := ⟨by
       have h := HS.out.2
       rw [List.drop_of_length_le (by omega)] at h
       exact h.symm⟩
      clear hlt
      go_wp2
      go_ret
      rw [HRR.out]
      exact ⟨rfl, HB4.out⟩
  have t2 : (x.f0 == 2) = false := beq_eq_false_iff_ne.2 h2
  have t2b : (x.f0 != 2) = true := by rw [bne, t2]; rfl
  by_cases h0 : 0 < x.f1.length
  · have d1 : decide (0 < x.f1.length) = true := decide_eq_true h0
    have HRR : Aside0 (res = false) := ⟨by rw [← HR3.out, t2, d1]; simp⟩
    clear h2
    go_wp2
    go_ret
    rw [HRR.out]
    exact ⟨rfl, HB2.out⟩
  have d1 : decide (0 < x.f1.length) = false := decide_eq_false h0
  have d1z : decide (0 < (x.f1.length : Int)) = false := decide_eq_false (by omega)
  have HR4 : Aside0 (mayL (x.f2.drop 0) = res) := ⟨by rw [← HR3.out, t2, d1]; simp⟩
  clear h2 h0
  go_wp2_with fail
  clear t2 t2b d1 d1z y0 y1 y2
  go_loopw [4] (fun i w => ∃ m : Nat, i = .int .i64 (m : Int) ∧ m ≤ x.f2.length ∧ Aside0 (Below w2.heap.size w2 w ∧ mayL (x.f2.drop m) = res)) (fun i _ => x.f2.length - (intOf i).toNat)
  case atStart => exact ⟨0, rfl, Nat.zero_le _, ⟨⟨Below.refl _ _, HR4.out⟩⟩⟩
  case round =>
   obtain ⟨m, rfl, hm, HS⟩ := hrel
   obtain ⟨w4, hw4⟩ : ∃ z, wr = z := ⟨_, rfl⟩
   rw [hw4] at HS ⊢
   clear hw4
   have HB4 := Aside0.mk (join_below HB2.out HS.out.1)
   by_cases hlt : m < x.f2.length
   · have e1 : decide (m < x.f2.length) = true := decide_eq_true hlt
     have hil : (m : Int) < x.f2.length := by omega
     obtain ⟨g, og, hA, _, hcell⟩ := row_cells HC3.out (by omega) (by decide)
     subst hA
     have y3 : w4.cell? ⟨bg, 2, none⟩ = some (.slice (some ⟨g, og, none⟩) x.f2.length c3) := (blk_cell (blk_below HKP2.out HS.out.1) 2).trans rfl
     obtain ⟨y, hy⟩ : ∃ y, x.f2[m]? = some y := ⟨_, List.getElem?_eq_getElem hlt⟩
     obtain ⟨cs, _, hK, hcc⟩ := hcell m y hy
     have HKY := Aside0.mk hK
     obtain ⟨B1, d1, B3, d3, rfl, _, _, _, _⟩ := k38_open hK
     have z0 := cell_after HB4.out (hcc 0 (.int .i64 y.f0) rfl)
     have z1 := cell_after HB4.out (hcc 1 (.slice B1 y.f1.length d1) rfl)
     have z2 := cell_after HB4.out (hcc 2 (.slice B3 y.f2.length d3) rfl)
     simp only [Nat.add_zero, show k38.sz = 3 from rfl] at z0 z1 z2
     have HLT := Aside0.mk hlt
     have HAT := Aside0.mk ((mayL_at hy).symm.trans HS.out.2)
     have HCA := Aside0.mk (HX.out y (List.mem_of_getElem? hy) W w4 _ HB4.out HKY.out (okL_mem HOK.out.2 y (List.mem_of_getElem? hy)))
     clear hcell hcc hK hy hlt
     go_wp2_with fail
     refine HCA.out.mono ?_
     rintro e w5 ⟨rfl, hd⟩
     have HB5 := Aside0.mk hd
     clear hd z0 z1 z2 y3 e1 HCA
     cases hmy : mayR y
     · have HRR : Aside0 (res = false) := ⟨by rw [← HAT.out, hmy]; rfl⟩
       clear hmy
       go_wp2
       go_ret
       rw [HRR.out]
       exact ⟨rfl, join_below HB4.out HB5.out⟩
     · have HA2 : Aside0 (mayL (x.f2.drop (m + 1)) = res) := ⟨by rw [← HAT.out, hmy]; rfl⟩
       clear hmy
       go_wp2
       go_roundw
       case rel => exact ⟨m + 1, by go_num, HLT.out, ⟨⟨join_below HS.out.1 HB5.out, HA2.out⟩⟩⟩
       case measure => have := HLT.out; simp [intOf]; omega
   · have e1 : decide (m < x.f2.length) = false := decide_eq_false hlt
     have HRR : Aside0 (res = true) := ⟨by
      have h := HS.out.2
      rw [List.drop_of_length_le (by omega)] at h
      exact h.symm⟩
     clear hlt
     go_wp2
     go_ret
     rw [HRR.out]
     exact ⟨rfl, HB4.out⟩
theorem rpart_all : ∀ (N : Nat) (x : RE), SizeOf.sizeOf x < N → RPartC x
 | 0, x, h => absurd h (Nat.not_lt_zero _)
 | N + 1, x, h => rpart_go x (fun y hy => rpart_all N y (by
     have h1 := List.sizeOf_lt_of_mem hy
     have h2 : SizeOf.sizeOf x.f2 < SizeOf.sizeOf x := by
      cases x
      simp
      omega
     omega))
theorem rpart_any (x : RE) : RPartC x := rpart_all (SizeOf.sizeOf x + 1) x (Nat.lt_succ_self _)
end Go.Proofs.YthdfmbmbjpmlaaaGreatDoor.Rn
end
section
set_option linter.unusedVariables false
set_option linter.unusedSimpArgs false
namespace Go.Proofs.YthdfmbmbjpmlaaaGreatDoor.Rn
open Go Go.RowKit Go.Proofs.YthdfmbmbjpmlaaaGreatDoorW.PrintWords Go.Proofs.YthdfmbmbjpmlaaaGreatDoorW.PrintLast Go.Proofs.YthdfmbmbjpmlaaaGreatDoorW.PrintMore
mutual
/-- how deep -/
def deepR : RE → Nat
 | ⟨_, _, l⟩ => deepRL l + 1
def deepRL : List RE → Nat
 | [] => 0
 | x :: l => max (deepR x) (deepRL l)
end
mutual
theorem wtR_ok : ∀ (x : RE) (deep n : Int), (sizeR x : Int) ≤ n → deep + (deepR x : Int) ≤ 13 → wtR x deep n = (true, n - sizeR x)
 | ⟨_, _, l⟩, deep, n, h1, h2 => by
  simp only [sizeR, deepR] at h1 h2
  rw [wtR, if_pos ⟨by omega, by omega⟩, wtL_ok l (deep + 1) (n - 1) (by omega) (by omega)]
  simp only [sizeR]
  congr 1
  omega
theorem wtL_ok : ∀ (l : List RE) (deep n : Int), (sizeRL l : Int) ≤ n → deep + (deepRL l : Int) ≤ 13 → wtL l deep n = (true, n - sizeRL l)
 | [], deep, n, h1, h2 => by simp [wtL, sizeRL]
 | x :: l, deep, n, h1, h2 => by
  simp only [sizeRL, deepRL] at h1 h2
  have e := wtR_ok x deep n (by omega) (by omega)
  rw [wtL_yes (by rw [e]), e]
  show wtL l deep (n - sizeR x) = _
  rw [wtL_ok l deep _ (by omega) (by omega)]
  simp only [sizeRL]
  congr 1
  omega
end
mutual
theorem wtR_yes : ∀ (x : RE) (deep n : Int), (wtR x deep n).1 = true → (sizeR x : Int) ≤ n ∧ deep + (deepR x : Int) ≤ 13 ∧ (wtR x deep n).2 = n - sizeR x
 | ⟨_, _, l⟩, deep, n, h => by
  rw [wtR] at h ⊢
  by_cases c : 0 ≤ n - 1 ∧ deep ≤ 12
  · rw [if_pos c] at h ⊢
    have := wtL_yes2 l (deep + 1) (n - 1) (by omega) (by omega) h
    simp only [sizeR, deepR]
    omega
  · rw [if_neg c] at h
    exact absurd h (by simp)
theorem wtL_yes2 : ∀ (l : List RE) (deep n : Int), 0 ≤ n → deep ≤ 13 → (wtL l deep n).1 = true → (sizeRL l : Int) ≤ n ∧ deep + (deepRL l : Int) ≤ 13 ∧ (wtL l deep n).2 = n - sizeRL l
 | [], deep, n, h0, h1, h => by
  simp only [wtL, sizeRL, deepRL]
  omega
 | x :: l, deep, n, h0, h1, h => by
  by_cases c : (wtR x deep n).1 = true
  · have h2 := wtR_yes x deep n c
    rw [wtL_yes c] at h ⊢
    have h3 := wtL_yes2 l deep _ (by rw [h2.2.2]; omega) h1 h
    simp only [sizeRL, deepRL]
    omega
  · rw [wtL_no c] at h
    exact absurd h (by simp)
end
theorem wt_iff (x : RE) : (wtR x 1 60).1 = (decide (sizeR x ≤ 60) && decide (deepR x ≤ 12)) := by
 by_cases h : sizeR x ≤ 60 ∧ deepR x ≤ 12
 · rw [wtR_ok x 1 60 (by omega) (by omega), decide_eq_true h.1, decide_eq_true h.2]
   rfl
 · cases hb : (wtR x 1 60).1
   · by_cases h1 : sizeR x ≤ 60
     · rw [decide_eq_true h1, decide_eq_false (fun h2 => h ⟨h1, h2⟩)]; rfl
     · rw [decide_eq_false h1]; rfl
   · have := wtR_yes x 1 60 hb
     exact absurd ⟨by omega, by omega⟩ h
theorem deepRL_at {l : List RE} {m : Nat} {x : RE} (h : l[m]? = some x) : deepRL (l.take (m + 1)) = max (deepRL (l.take m)) (deepR x) := by
 have key : ∀ a b : List RE, deepRL (a ++ b) = max (deepRL a) (deepRL b) := fun a b => by
  induction a with
  | nil => simp [deepRL]
  | cons y a ih => simp only [List.cons_append, deepRL, ih]; omega
 rw [List.take_add_one, h, key]
 simp [deepRL]
theorem sizeRL_take (l : List RE) (m : Nat) : sizeRL (l.take m) ≤ sizeRL l ∧ deepRL (l.take m) ≤ sizeRL l := by
 have key : ∀ a b : List RE, sizeRL (a ++ b) = sizeRL a + sizeRL b := fun a b => by
  induction a with
  | nil => simp [sizeRL]
  | cons y a ih => simp only [List.cons_append, sizeRL, ih]; omega
 have h := key (l.take m) (l.drop m)
 rw [List.take_append_drop] at h
 exact ⟨by omega, Nat.le_trans (deep_le _) (by omega)⟩
where
 deep_le : ∀ l : List RE, deepRL l ≤ sizeRL l
  | [] => Nat.le_refl _
  | ⟨_, _, k⟩ :: l => by
   have h1 := deep_le k
   have h2 := deep_le l
   simp only [deepRL, sizeRL, deepR, sizeR]
   omega
theorem sizeR_mem {l : List RE} {x : RE} (h : x ∈ l) : sizeR x ≤ sizeRL l := by
 induction l with
 | nil => cases h
 | cons y l ih =>
  simp only [sizeRL]
  rcases List.mem_cons.1 h with rfl | h
  · omega
  · have := ih h; omega
theorem len_sizeRL : ∀ l : List RE, l.length ≤ sizeRL l
 | [] => Nat.le_refl _
 | ⟨_, _, k⟩ :: l => by
  have := len_sizeRL l
  simp only [sizeRL, sizeR, List.length_cons]
  omega
def RCntC (x : RE) : Prop := ∀ (w0 W : World) (cs : List Value), Below w0.heap.size w0 W → k38.K w0 x cs → sizeR x ≤ 1000 →
    Calls Tryz.prog 72 #[.agg cs.toArray, .int .i64 0] W fun e W' => e = .returned (.tuple #[.int .i64 (sizeR x : Int), .int .i64 (deepR x : Int)]) ∧ Below W.heap.size W W'
set_option maxHeartbeats 40000000 in
set_option maxRecDepth 100000 in
theorem rcount_go (x : RE) (hx : ∀ y, y ∈ x.f2 → RCntC y) : RCntC x := fun w0 W cs hB hK0 hsz => by
 obtain ⟨A1, c1, A3, c3, rfl, l1, C1, l3, C3⟩ := k38_open hK0
 have HX := Aside0.mk hx
 have HC3 := Aside0.mk (Kd.C_below C3 hB)
 have hl3 : x.f2.length ≤ 9223372036854775807 := C3.2.1
 have HSZ : Aside0 (sizeR x = 1 + sizeRL x.f2 ∧ deepR x = deepRL x.f2 + 1) := ⟨by cases x; simp only [sizeR]; omega, by cases x; simp only [deepR]⟩
 have hsl : sizeRL x.f2 ≤ 999 := by have := HSZ.out; omega
 have hln : x.f2.length ≤ 999 := Nat.le_trans (len_sizeRL _) hsl
 have HTK : Aside0 (∀ m, sizeRL (x.f2.take m) ≤ 999 ∧ deepRL (x.f2.take m) ≤ 999) := ⟨fun m => by have := sizeRL_take x.f2 m; omega⟩
 clear hx C1 C3 hK0 hB hsz
 go_enter Tryz.func72, Tryz.ntmps72
 go_upto_region 1 with (fail)
 obtain ⟨w1, hw1⟩ : ∃ z, W.alloc (.cells #[.int .i64 x.f0, .slice A1 x.f1.length c1, .slice A3 x.f2.length c3] 38) = z := ⟨_, rfl⟩
 obtain ⟨bg, hbg⟩ : ∃ z, W.heap.size = z := ⟨_, rfl⟩
 have HB0 : Aside0 (Below W.heap.size W w1) := ⟨hw1 ▸ below1 _ _⟩
 have HKP : Aside0 (w1.heap[bg]? = some (.cells #[.int .i64 x.f0, .slice A1 x.f1.length c1, .slice A3 x.f2.length c3] 38 (0, 0))) := ⟨by rw [← hw1, ← hbg]; exact blk_new _ _⟩
 rw [hw1, hbg]
 clear hw1 hbg
 go_wp2_with fail
 go_loopw [1, 6, 7] (fun v d i w => ∃ m N D : Nat, v = .int .i64 (N : Int) ∧ d = .int .i64 (D : Int) ∧ i = .int .i64 (m : Int) ∧ m ≤ x.f2.length ∧ N ≤ 1000 ∧ D ≤ 1000 ∧ Aside0 (Below w1.heap.size w1 w ∧ N = 1 + sizeRL (x.f2.take m) ∧ D = deepRL (x.f2.take m))) (fun _ _ i _ => x.f2.length - (intOf i).toNat)
 case atStart => exact ⟨0, 1, 0, rfl, rfl, rfl, Nat.zero_le _, by omega, by omega, ⟨⟨Below.refl _ _, by simp [sizeRL], by simp [deepRL]⟩⟩⟩
 case round =>
  obtain ⟨m, N, D, rfl, rfl, rfl, hm, hN, hD, HS⟩ := hrel
  obtain ⟨w4, hw4⟩ : ∃ z, wr = z := ⟨_, rfl⟩
  rw [hw4] at HS ⊢
  clear hw4
  have HB4 := Aside0.mk (join_below HB0.out HS.out.1)
  have y3 : w4.cell? ⟨bg, 2, none⟩ = some (.slice A3 x.f2.length c3) := (blk_cell (blk_below HKP.out HS.out.1) 2).trans rfl
  have e2 : decide (N < 2000) = true := decide_eq_true (by omega)
  have e2z : decide ((N : Int) < 2000) = true := decide_eq_true (by omega)
  by_cases hlt : m < x.f2.length
  · have e1 : decide (m < x.f2.length) = true := decide_eq_true hlt
    have hil : (m : Int) < x.f2.length := by omega
    obtain ⟨g, og, hA, _, hcell⟩ := row_cells HC3.out (by omega) (by decide)
    subst hA
    obtain ⟨y, hy⟩ : ∃ y, x.f2[m]? = some y := ⟨_, List.getElem?_eq_getElem hlt⟩
    obtain ⟨cs, _, hK, hcc⟩ := hcell m y hy
    have HKY := Aside0.mk hK
    obtain ⟨B1, d1, B3, d3, rfl, _, _, _, _⟩ := k38_open hK
    have z0 := cell_after HB4.out (hcc 0 (.int .i64 y.f0) rfl)
    have z1 := cell_after HB4.out (hcc 1 (.slice B1 y.f1.length d1) rfl)
    have z2 := cell_after HB4.out (hcc 2 (.slice B3 y.f2.length d3) rfl)
    simp only [Nat.add_zero, show k38.sz = 3 from rfl] at z0 z1 z2
    have HLT := Aside0.mk hlt
    have HAT := Aside0.mk (And.intro (sizeRL_at hy) (deepRL_at hy))
    have HT2 := Aside0.mk (HTK.out (m + 1))
    have HCA := Aside0.mk (HX.out y (List.mem_of_getElem? hy) W w4 _ HB4.out HKY.out (by have := sizeR_mem (List.mem_of_getElem? hy); omega))
    clear hcell hcc hK hy hlt
    go_wp2_with fail
    refine HCA.out.mono ?_
    rintro e w5 ⟨rfl, hd⟩
    have HB5 := Aside0.mk hd
    obtain ⟨sy, hsy⟩ : ∃ z, sizeR y = z := ⟨_, rfl⟩
    obtain ⟨dy, hdy⟩ : ∃ z, deepR y = z := ⟨_, rfl⟩
    rw [hsy, hdy]
    rw [hsy, hdy] at HAT
    have hb1 : sy ≤ 999 := by have h1 := HAT.out.1; have h2 := HT2.out; omega
    have hb2 : dy ≤ 999 := by have h1 := HAT.out.2; have h2 := HT2.out; omega
    have HN2 : Aside0 (N + sy = 1 + sizeRL (x.f2.take (m + 1)) ∧ max D dy = deepRL (x.f2.take (m + 1))) := ⟨by have h1 := HAT.out; have h2 := HS.out.2; omega⟩
    have hN3 : N + sy ≤ 1000 := by have h1 := HN2.out; have h2 := HT2.out; omega
    have hn8 : (N : Int) ≤ 1000 := by omega
    have hs8 : (sy : Int) ≤ 999 := by omega
    have hd8 : (D : Int) ≤ 1000 := by omega
    have hdy8 : (dy : Int) ≤ 999 := by omega
    clear hd z0 z1 z2 y3 e1 e2 e2z HCA hsy hdy HAT
    go_wp2
    all_goals go_roundw
    case measure => have := HLT.out; simp [intOf]; omega
    case rel => exact ⟨m + 1, N + sy, max D dy, by go_num, by first | rfl | go_num | (rw [Nat.max_eq_left (by omega)]; done) | (rw [Nat.max_eq_right (by omega)]; done) | (congr 1; omega), by go_num, HLT.out, hN3, by omega, ⟨⟨join_below HS.out.1 HB5.out, HN2.out⟩⟩⟩
  · have e1 : decide (m < x.f2.length) = false := decide_eq_false hlt
    have HF : Aside0 (N = sizeR x ∧ D + 1 = deepR x) := ⟨by
     have h := HS.out.2
     rw [List.take_of_length_le (by omega)] at h
     have := HSZ.out
     omega⟩
    have hd8 : (D : Int) ≤ 1000 := by omega
    clear hlt
    go_wp2
    refine bodyPost_ret (results_tmp2 rfl _ _ _) rfl ?_
    rw [← HF.out.1, ← HF.out.2]
    exact ⟨rfl, HB4.out⟩
theorem rcount_all : ∀ (N : Nat) (x : RE), SizeOf.sizeOf x < N → RCntC x
 | 0, x, h => absurd h (Nat.not_lt_zero _)
 | N + 1, x, h => rcount_go x (fun y hy => rcount_all N y (by
     have h1 := List.sizeOf_lt_of_mem hy
     have h2 : SizeOf.sizeOf x.f2 < SizeOf.sizeOf x := by
      cases x
      simp
      omega
     omega))
theorem rcount_any (x : RE) : RCntC x := rcount_all (SizeOf.sizeOf x + 1) x (Nat.lt_succ_self _)
set_option maxHeartbeats 4000000 in
set_option maxRecDepth 100000 in
theorem rCount_any (x : RE) (hsz : sizeR x ≤ 1000) (w0 W : World) (cs : List Value) (hB : Below w0.heap.size w0 W) (hK0 : k38.K w0 x cs) :
 Calls Tryz.prog 53 #[.agg cs.toArray] W fun e W' => e = .returned (.tuple #[.int .i64 (sizeR x : Int), .int .i64 (deepR x : Int)]) ∧ Below W.heap.size W W' := by
 have HK := Aside0.mk (And.intro hB hK0)
 obtain ⟨A1, c1, A3, c3, rfl, _, _, _, _⟩ := k38_open hK0
 clear hB hK0
 go_enter Tryz.func53, Tryz.ntmps53
 go_upto_region 1 with (fail)
 obtain ⟨w1, hw1⟩ : ∃ z, W.alloc (.cells #[.int .i64 x.f0, .slice A1 x.f1.length c1, .slice A3 x.f2.length c3] 38) = z := ⟨_, rfl⟩
 have HB0 : Aside0 (Below W.heap.size W w1) := ⟨hw1 ▸ below1 _ _⟩
 have hk : w1.heap[W.heap.size]? = some (.cells #[.int .i64 x.f0, .slice A1 x.f1.length c1, .slice A3 x.f2.length c3] 38 (0, 0)) := by rw [← hw1]; exact blk_new _ _
 have y0 : w1.cell? ⟨W.heap.size, 0, none⟩ = some (.int .i64 x.f0) := (blk_cell hk 0).trans rfl
 have y1 : w1.cell? ⟨W.heap.size, 1, none⟩ = some (.slice A1 x.f1.length c1) := (blk_cell hk 1).trans rfl
 have y2 : w1.cell? ⟨W.heap.size, 2, none⟩ = some (.slice A3 x.f2.length c3) := (blk_cell hk 2).trans rfl
 rw [hw1]
 clear hw1 hk
 go_wp2_with fail
 refine (rcount_any x w0 w1 _ (join_below HK.out.1 HB0.out) HK.out.2 hsz).mono ?_
 rintro e w2 ⟨rfl, hb⟩
 have HB2 := Aside0.mk (join_below HB0.out hb)
 clear hb y0 y1 y2
 go_wp2
 refine bodyPost_ret (results_tmp2 rfl _ _ _) rfl ?_
 exact ⟨rfl, HB2.out⟩
set_option maxHeartbeats 4000000 in
set_option maxRecDepth 100000 in
theorem rMay_any (x : RE) (hsz : sizeR x ≤ 1000) (hok : okT x = true) (w0 W : World) (cs : List Value) (hB : Below w0.heap.size w0 W) (hK0 : k38.K w0 x cs) :
 Calls Tryz.prog 25 #[.agg cs.toArray] W fun e W' => e = .returned (.bool ((wtR x 1 60).1 && mayR x)) ∧ Below W.heap.size W W' := by
 have HK := Aside0.mk (And.intro hB hK0)
 obtain ⟨A1, c1, A3, c3, rfl, _, _, _, _⟩ := k38_open hK0
 have HR := Aside0.mk (wt_iff x)
 have HOK := Aside0.mk hok
 clear hB hK0 hok
 obtain ⟨res, hres⟩ : ∃ r, ((wtR x 1 60).1 && mayR x) = r := ⟨_, rfl⟩
 have HRR := Aside0.mk hres
 rw [hres]
 clear hres
 go_enter Tryz.func25, Tryz.ntmps25
 go_upto_region 1 with (fail)
 obtain ⟨w1, hw1⟩ : ∃ z, W.alloc (.cells #[.int .i64 x.f0, .slice A1 x.f1.length c1, .slice A3 x.f2.length c3] 38) = z := ⟨_, rfl⟩
 obtain ⟨bg, hbg⟩ : ∃ z, W.heap.size = z := ⟨_, rfl⟩
 have HB0 : Aside0 (Below W.heap.size W w1) := ⟨hw1 ▸ below1 _ _⟩
 have HKP : Aside0 (w1.heap[bg]? = some (.cells #[.int .i64 x.f0, .slice A1 x.f1.length c1, .slice A3 x.f2.length c3] 38 (0, 0))) := ⟨by rw [← hw1, ← hbg]; exact blk_new _ _⟩
 rw [hw1, hbg]
 clear hw1 hbg
 have y0 : w1.cell? ⟨bg, 0, none⟩ = some (.int .i64 x.f0) := (blk_cell HKP.out 0).trans rfl
 have y1 : w1.cell? ⟨bg, 1, none⟩ = some (.slice A1 x.f1.length c1) := (blk_cell HKP.out 1).trans rfl
 have y2 : w1.cell? ⟨bg, 2, none⟩ = some (.slice A3 x.f2.length c3) := (blk_cell HKP.out 2).trans rfl
 go_wp2_with fail
 refine (rCount_any x hsz w0 w1 _ (join_below HK.out.1 HB0.out) HK.out.2).mono ?_
 rintro e w2 ⟨rfl, hb⟩
 have HB2 := Aside0.mk hb
 have HKP2 := Aside0.mk (blk_below HKP.out hb)
 clear hb y0 y1 y2
 by_cases h1 : sizeR x ≤ 60
 case neg =>
  have d1 : decide (sizeR x ≤ 60) = false := decide_eq_false h1
  have d1z : decide ((sizeR x : Int) ≤ 60) = false := decide_eq_false (by omega)
  have HF : Aside0 (res = false) := ⟨by rw [← HRR.out, HR.out, d1]; rfl⟩
  go_wp2
  go_ret
  rw [HF.out]
  exact ⟨rfl, join_below HB0.out HB2.out⟩
 have d1 : decide (sizeR x ≤ 60) = true := decide_eq_true h1
 have d1z : decide ((sizeR x : Int) ≤ 60) = true := decide_eq_true (by omega)
 by_cases h2 : deepR x ≤ 12
 case neg =>
  have d2 : decide (deepR x ≤ 12) = false := decide_eq_false h2
  have d2z : decide ((deepR x : Int) ≤ 12) = false := decide_eq_false (by omega)
  have HF : Aside0 (res = false) := ⟨by rw [← HRR.out, HR.out, d1, d2]; rfl⟩
  go_wp2
  go_ret
  rw [HF.out]
  exact ⟨rfl, join_below HB0.out HB2.out⟩
 have d2 : decide (deepR x ≤ 12) = true := decide_eq_true h2
 have d2z : decide ((deepR x : Int) ≤ 12) = true := decide_eq_true (by omega)
 have HF : Aside0 (mayR x = res) := ⟨by rw [← HRR.out, HR.out, d1, d2]; rfl⟩
 have y0 : w2.cell? ⟨bg, 0, none⟩ = some (.int .i64 x.f0) := (blk_cell HKP2.out 0).trans rfl
 have y1 : w2.cell? ⟨bg, 1, none⟩ = some (.slice A1 x.f1.length c1) := (blk_cell HKP2.out 1).trans rfl
 have y2 : w2.cell? ⟨bg, 2, none⟩ = some (.slice A3 x.f2.length c3) := (blk_cell HKP2.out 2).trans rfl
 go_wp2_with fail
 refine (rpart_any x w0 w2 _ (join_below HK.out.1 (join_below HB0.out HB2.out)) HK.out.2 HOK.out).mono ?_
 rintro e w3 ⟨rfl, hb⟩
 have HB3 := Aside0.mk (join_below HB2.out hb)
 rw [HF.out]
 clear hb y0 y1 y2
 go_wp2
 all_goals
  go_ret
  exact ⟨by first | rfl | simp, join_below HB0.out HB3.out⟩
end Go.Proofs.YthdfmbmbjpmlaaaGreatDoor.Rn
end
section
set_option linter.unusedVariables false
set_option linter.unusedSimpArgs false
namespace Go.Proofs.YthdfmbmbjpmlaaaGreatDoor.Rn
open Go Go.RowKit Go.Proofs.YthdfmbmbjpmlaaaGreatDoorW.PrintWords Go.Proofs.YthdfmbmbjpmlaaaGreatDoorW.PrintLast Go.Proofs.YthdfmbmbjpmlaaaGreatDoorW.PrintMore
mutual
/-- is the empty text of it -/
def emR : RE → Bool
 | ⟨k, _, l⟩ => if k = 1 ∨ k = 5 then true else if k = 3 then emAnd l else if k = 4 then emOr l else false
def emAnd : List RE → Bool
 | [] => true
 | x :: l => emR x && emAnd l
def emOr : List RE → Bool
 | [] => false
 | x :: l => emR x || emOr l
end
theorem may_two {x : RE} (h : mayR x = true) (hk : x.f0 = 3 ∨ x.f0 = 4) : ∃ a b, x.f2 = [a, b] ∧ mayR a = true ∧ mayR b = true := by
 obtain ⟨k, s, l⟩ := x
 rw [mayR] at h
 simp only [Bool.and_eq_true, decide_eq_true_eq] at h
 have hp : partsS k = 2 := by
  unfold partsS
  rcases hk with hk | hk
  · have hk' : k = 3 := hk
    rw [if_neg (by omega), if_pos (by omega)]
  · have hk' : k = 4 := hk
    rw [if_neg (by omega), if_pos (by omega)]
 rw [hp] at h
 match l, h with
 | [a, b], h =>
  refine ⟨a, b, rfl, ?_, ?_⟩
  · have := h.1.2
    simp only [mayL, Bool.and_eq_true] at this
    exact this.1
  · have := h.1.2
    simp only [mayL, Bool.and_eq_true] at this
    exact this.2.1
 | [], h => simp at h
 | [a], h => simp at h
 | a :: b :: c :: l, h => have := h.1.1; simp at this; omega
def REmpC (x : RE) : Prop := ∀ (w0 W : World) (cs : List Value), Below w0.heap.size w0 W → k38.K w0 x cs → mayR x = true →
    Calls Tryz.prog 26 #[.agg cs.toArray] W fun e W' => e = .returned (.bool (emR x)) ∧ Below W.heap.size W W'
set_option maxHeartbeats 40000000 in
set_option maxRecDepth 100000 in
theorem remp6_go (x : RE) (hx : ∀ y, y ∈ x.f2 → REmpC y) : REmpC x := fun w0 W cs hB hK0 hmy => by
 obtain ⟨A1, c1, A3, c3, rfl, l1, C1, l3, C3⟩ := k38_open hK0
 have HX := Aside0.mk hx
 have HC3 := Aside0.mk (Kd.C_below C3 hB)
 have HMY := Aside0.mk hmy
 obtain ⟨res, hres⟩ : ∃ r, emR x = r := ⟨_, rfl⟩
 have HR : Aside0 ((if x.f0 = 1 ∨ x.f0 = 5 then true else if x.f0 = 3 then emAnd x.f2 else if x.f0 = 4 then emOr x.f2 else false) = res) := ⟨by rw [← hres]; cases x; rw [emR]⟩
 rw [hres]
 clear hx C1 C3 hres hK0 hB hmy
 go_enter Tryz.func26, Tryz.ntmps26
 go_upto_region 1 with (fail)
 obtain ⟨w1, hw1⟩ : ∃ z, W.alloc (.cells #[.int .i64 x.f0, .slice A1 x.f1.length c1, .slice A3 x.f2.length c3] 38) = z := ⟨_, rfl⟩
 obtain ⟨bg, hbg⟩ : ∃ z, W.heap.size = z := ⟨_, rfl⟩
 have HB0 : Aside0 (Below W.heap.size W w1) := ⟨hw1 ▸ below1 _ _⟩
 have HKP : Aside0 (w1.heap[bg]? = some (.cells #[.int .i64 x.f0, .slice A1 x.f1.length c1, .slice A3 x.f2.length c3] 38 (0, 0))) := ⟨by rw [← hw1, ← hbg]; exact blk_new _ _⟩
 rw [hw1, hbg]
 clear hw1 hbg
 have y0 : w1.cell? ⟨bg, 0, none⟩ = some (.int .i64 x.f0) := (blk_cell HKP.out 0).trans rfl
 have y2 : w1.cell? ⟨bg, 2, none⟩ = some (.slice A3 x.f2.length c3) := (blk_cell HKP.out 2).trans rfl
 have hk : x.f0 = 1 ∨ x.f0 = 5 ∨ x.f0 = 3 ∨ x.f0 = 4 ∨ ¬ (x.f0 = 1 ∨ x.f0 = 5 ∨ x.f0 = 3 ∨ x.f0 = 4) := by omega
 rcases hk with hk | hk | hk | hk | hk
 · skip
   have t1 : (x.f0 == 1) = true := beq_iff_eq.2 (by omega)
   have HRR : Aside0 (res = true) := ⟨by rw [← HR.out, if_pos (by omega)]⟩
   clear hk
   go_wp2
   go_ret
   rw [HRR.out]
   exact ⟨rfl, HB0.out⟩
 · skip
   have t1 : (x.f0 == 1) = false := beq_eq_false_iff_ne.2 (by omega)
   have t5 : (x.f0 == 5) = true := beq_iff_eq.2 (by omega)
   have HRR : Aside0 (res = true) := ⟨by rw [← HR.out, if_pos (by omega)]⟩
   clear hk
   go_wp2
   go_ret
   rw [HRR.out]
   exact ⟨rfl, HB0.out⟩
 · skip
   have t1 : (x.f0 == 1) = false := beq_eq_false_iff_ne.2 (by omega)
   have t5 : (x.f0 == 5) = false := beq_eq_false_iff_ne.2 (by omega)
   have t3 : (x.f0 == 3) = true := beq_iff_eq.2 (by omega)
   have HRR : Aside0 (emAnd x.f2 = res) := ⟨by rw [← HR.out, if_neg (by omega), if_pos (by omega)]⟩
   obtain ⟨a, b, hl, ma, mb⟩ := may_two HMY.out (by omega)
   have hl2 : x.f2.length = 2 := by rw [hl]; rfl
   obtain ⟨g, og, hA, _, hcell⟩ := row_cells HC3.out (by omega) (by decide)
   subst hA
   obtain ⟨ca, _, hKa, hca⟩ := hcell 0 a (by rw [hl]; rfl)
   obtain ⟨cb, _, hKb, hcb⟩ := hcell 1 b (by rw [hl]; rfl)
   have HKa := Aside0.mk hKa
   have HKb := Aside0.mk hKb
   obtain ⟨B1, d1, B3, d3, rfl, _, _, _, _⟩ := k38_open hKa
   obtain ⟨D1, f1, D3, f3, rfl, _, _, _, _⟩ := k38_open hKb
   have HCB := Aside0.mk hcb
   have z0 := cell_after HB0.out (hca 0 (.int .i64 a.f0) rfl)
   have z1 := cell_after HB0.out (hca 1 (.slice B1 a.f1.length d1) rfl)
   have z2 := cell_after HB0.out (hca 2 (.slice B3 a.f2.length d3) rfl)
   simp only [Nat.add_zero, Nat.zero_mul] at z0 z1 z2
   have HEA := Aside0.mk (HX.out a (by rw [hl]; simp) W w1 _ HB0.out HKa.out ma)
   have HEB := Aside0.mk (fun w h => HX.out b (by rw [hl]; simp) W w _ h HKb.out mb)
   have HRES : Aside0 ((emR a && emR b) = res) := ⟨by rw [← HRR.out, hl, emAnd, emAnd, emAnd]; simp⟩
   have hi0 : (0 : Int) < (x.f2.length : Int) := by omega
   have hi1 : (1 : Int) < (x.f2.length : Int) := by omega
   clear hcell hca hcb hKa hKb hl ma mb hk HRR
   go_wp2_with fail
   refine HEA.out.mono ?_
   rintro e w2 ⟨rfl, hb⟩
   have HB2 := Aside0.mk hb
   clear hb z0 z1 z2
   cases ha : emR a
   · skip
     have HRR : Aside0 (res = false) := ⟨by rw [← HRES.out, ha]; rfl⟩
     clear ha
     go_wp2
     go_ret
     rw [HRR.out]
     exact ⟨rfl, join_below HB0.out HB2.out⟩
   · skip
     have HRR : Aside0 (emR b = res) := ⟨by rw [← HRES.out, ha]; rfl⟩
     have HBW := Aside0.mk (join_below HB0.out HB2.out)
     have y2 : w2.cell? ⟨bg, 2, none⟩ = some (.slice (some ⟨g, og, none⟩) x.f2.length c3) := (blk_cell (blk_below HKP.out HB2.out) 2).trans rfl
     have z0 := cell_after HBW.out (HCB.out 0 (.int .i64 b.f0) rfl)
     have z1 := cell_after HBW.out (HCB.out 1 (.slice D1 b.f1.length f1) rfl)
     have z2 := cell_after HBW.out (HCB.out 2 (.slice D3 b.f2.length f3) rfl)
     simp only [Nat.add_zero, show k38.sz = 3 from rfl, Nat.one_mul] at z0 z1 z2
     clear ha
     go_wp2_with fail
     refine (HEB.out w2 HBW.out).mono ?_
     rintro e w3 ⟨rfl, hb⟩
     have HB3 := Aside0.mk (join_below HBW.out hb)
     rw [HRR.out]
     clear hb z0 z1 z2 y2
     go_wp2
     all_goals
      go_ret
      exact ⟨by first | rfl | simp, HB3.out⟩
 · skip
   have t1 : (x.f0 == 1) = false := beq_eq_false_iff_ne.2 (by omega)
   have t5 : (x.f0 == 5) = false := beq_eq_false_iff_ne.2 (by omega)
   have t3 : (x.f0 == 3) = false := beq_eq_false_iff_ne.2 (by omega)
   have t4 : (x.f0 == 4) = true := beq_iff_eq.2 (by omega)
   have HRR : Aside0 (emOr x.f2 = res) := ⟨by rw [← HR.out, if_neg (by omega), if_neg (by omega), if_pos (by omega)]⟩
   obtain ⟨a, b, hl, ma, mb⟩ := may_two HMY.out (by omega)
   have hl2 : x.f2.length = 2 := by rw [hl]; rfl
   obtain ⟨g, og, hA, _, hcell⟩ := row_cells HC3.out (by omega) (by decide)
   subst hA
   obtain ⟨ca, _, hKa, hca⟩ := hcell 0 a (by rw [hl]; rfl)
   obtain ⟨cb, _, hKb, hcb⟩ := hcell 1 b (by rw [hl]; rfl)
   have HKa := Aside0.mk hKa
   have HKb := Aside0.mk hKb
   obtain ⟨B1, d1, B3, d3, rfl, _, _, _, _⟩ := k38_open hKa
   obtain ⟨D1, f1, D3, f3, rfl, _, _, _, _⟩ := k38_open hKb
   have HCB := Aside0.mk hcb
   have z0 := cell_after HB0.out (hca 0 (.int .i64 a.f0) rfl)
   have z1 := cell_after HB0.out (hca 1 (.slice B1 a.f1.length d1) rfl)
   have z2 := cell_after HB0.out (hca 2 (.slice B3 a.f2.length d3) rfl)
   simp only [Nat.add_zero, Nat.zero_mul] at z0 z1 z2
   have HEA := Aside0.mk (HX.out a (by rw [hl]; simp) W w1 _ HB0.out HKa.out ma)
   have HEB := Aside0.mk (fun w h => HX.out b (by rw [hl]; simp) W w _ h HKb.out mb)
   have HRES : Aside0 ((emR a || emR b) = res) := ⟨by rw [← HRR.out, hl, emOr, emOr, emOr]; simp⟩
   have hi0 : (0 : Int) < (x.f2.length : Int) := by omega
   have hi1 : (1 : Int) < (x.f2.length : Int) := by omega
   clear hcell hca hcb hKa hKb hl ma mb hk HRR
   go_wp2_with fail
   refine HEA.out.mono ?_
   rintro e w2 ⟨rfl, hb⟩
   have HB2 := Aside0.mk hb
   clear hb z0 z1 z2
   cases ha : emR a
   · skip
     have HRR : Aside0 (emR b = res) := ⟨by rw [← HRES.out, ha]; rfl⟩
     have HBW := Aside0.mk (join_below HB0.out HB2.out)
     have y2 : w2.cell? ⟨bg, 2, none⟩ = some (.slice (some ⟨g, og, none⟩) x.f2.length c3) := (blk_cell (blk_below HKP.out HB2.out) 2).trans rfl
     have z0 := cell_after HBW.out (HCB.out 0 (.int .i64 b.f0) rfl)
     have z1 := cell_after HBW.out (HCB.out 1 (.slice D1 b.f1.length f1) rfl)
     have z2 := cell_after HBW.out (HCB.out 2 (.slice D3 b.f2.length f3) rfl)
     simp only [Nat.add_zero, show k38.sz = 3 from rfl, Nat.one_mul] at z0 z1 z2
     clear ha
     go_wp2_with fail
     refine (HEB.out w2 HBW.out).mono ?_
     rintro e w3 ⟨rfl, hb⟩
     have HB3 := Aside0.mk (join_below HBW.out hb)
     rw [HRR.out]
     clear hb z0 z1 z2 y2
     go_wp2
     all_goals
      go_ret
      exact ⟨by first | rfl | simp, HB3.out⟩
   · skip
     have HRR : Aside0 (res = true) := ⟨by rw [← HRES.out, ha]; rfl⟩
     clear ha
     go_wp2
     go_ret
     rw [HRR.out]
     exact ⟨rfl, join_below HB0.out HB2.out⟩
 · skip
   have t1 : (x.f0 == 1) = false := beq_eq_false_iff_ne.2 (by omega)
   have t5 : (x.f0 == 5) = false := beq_eq_false_iff_ne.2 (by omega)
   have t3 : (x.f0 == 3) = false := beq_eq_false_iff_ne.2 (by omega)
   have t4 : (x.f0 == 4) = false := beq_eq_false_iff_ne.2 (by omega)
   have HRR : Aside0 (res = false) := ⟨by rw [← HR.out, if_neg (by omega), if_neg (by omega), if_neg (by omega)]⟩
   clear hk
   go_wp2
   go_ret
   rw [HRR.out]
   exact ⟨rfl, HB0.out⟩
theorem remp6_all : ∀ (N : Nat) (x : RE), SizeOf.sizeOf x < N → REmpC x
 | 0, x, h => absurd h (Nat.not_lt_zero _)
 | N + 1, x, h => remp6_go x (fun y hy => remp6_all N y (by
     have h1 := List.sizeOf_lt_of_mem hy
     have h2 : SizeOf.sizeOf x.f2 < SizeOf.sizeOf x := by
      cases x
      simp
      omega
     omega))
theorem remp6_any (x : RE) : REmpC x := remp6_all (SizeOf.sizeOf x + 1) x (Nat.lt_succ_self _)
theorem empty_ev : ∀ (N : Nat) (x : RE), SizeOf.sizeOf x < N → mayR x = true → EvS (fun k => regex_empty.f k x.f0 x.f1 x.f2) (emR x)
 | 0, x, h, _ => absurd h (Nat.not_lt_zero _)
 | N + 1, x, h, hm => by
  have hsub : ∀ y, y ∈ x.f2 → mayR y = true → EvS (fun k => regex_empty.f k y.f0 y.f1 y.f2) (emR y) := fun y hy hmy => empty_ev N y (by
   have h1 := List.sizeOf_lt_of_mem hy
   have h2 : SizeOf.sizeOf x.f2 < SizeOf.sizeOf x := by
    cases x
    simp
    omega
   omega) hmy
  have hR : (if x.f0 = 1 ∨ x.f0 = 5 then true else if x.f0 = 3 then emAnd x.f2 else if x.f0 = 4 then emOr x.f2 else false) = emR x := by cases x; rw [emR]
  by_cases h1 : x.f0 = 1
  · refine EvS.succ (h := fun k => regex_empty.j0 k x.f0 true x.f0 x.f1 x.f2) (fun k => by rw [regex_empty.f, if_pos h1, h1]; rfl) ?_
    refine EvS.succ (h := fun _ => some true) (fun k => by rw [regex_empty.j0, if_pos rfl]) ?_
    rw [← hR, if_pos (Or.inl h1)]
    exact EvS.now
  by_cases h5 : x.f0 = 5
  · refine EvS.succ (h := fun k => regex_empty.j0 k x.f0 true x.f0 x.f1 x.f2) (fun k => by rw [regex_empty.f, if_neg h1, h5]; rfl) ?_
    refine EvS.succ (h := fun _ => some true) (fun k => by rw [regex_empty.j0, if_pos rfl]) ?_
    rw [← hR, if_pos (Or.inr h5)]
    exact EvS.now
  have hf : (x.f0 == 5) = false := beq_eq_false_iff_ne.2 h5
  refine EvS.succ (h := fun k => regex_empty.j0 k x.f0 false x.f0 x.f1 x.f2) (fun k => by rw [regex_empty.f, if_neg h1, hf]) ?_
  by_cases h3 : x.f0 = 3
  · obtain ⟨a, b, hl, ma, mb⟩ := may_two hm (Or.inl h3)
    have ea := hsub a (by rw [hl]; simp) ma
    have eb := hsub b (by rw [hl]; simp) mb
    refine EvS.succ (h := fun k => (regex_empty.f k a.f0 a.f1 a.f2).bind fun t => if t = true then (regex_empty.f k b.f0 b.f1 b.f2).bind (fun u => some u) else some false) (fun k => by rw [regex_empty.j0, if_neg (by decide), if_pos h3, hl]; rfl) ?_
    rw [← hR, if_neg (by omega), if_pos h3, hl, emAnd, emAnd, emAnd]
    refine EvS.bind ea ?_
    cases emR a
    · exact EvS.now
    · refine EvS.congr (fun k => if_pos rfl) ?_
      have e : (true && (emR b && true)) = emR b := by simp
      rw [e]
      exact EvS.bind eb EvS.now
  by_cases h4 : x.f0 = 4
  · obtain ⟨a, b, hl, ma, mb⟩ := may_two hm (Or.inr h4)
    have ea := hsub a (by rw [hl]; simp) ma
    have eb := hsub b (by rw [hl]; simp) mb
    refine EvS.succ (h := fun k => (regex_empty.f k a.f0 a.f1 a.f2).bind fun t => if t = true then some true else (regex_empty.f k b.f0 b.f1 b.f2).bind (fun u => some u)) (fun k => by rw [regex_empty.j0, if_neg (by decide), if_neg h3, if_pos h4, hl]; rfl) ?_
    rw [← hR, if_neg (by omega), if_neg h3, if_pos h4, hl, emOr, emOr, emOr]
    refine EvS.bind ea ?_
    cases emR a
    · refine EvS.congr (fun k => if_neg (by decide)) ?_
      have e : (false || (emR b || false)) = emR b := by simp
      rw [e]
      exact EvS.bind eb EvS.now
    · exact EvS.now
  refine EvS.succ (h := fun _ => some false) (fun k => by rw [regex_empty.j0, if_neg (by decide), if_neg h3, if_neg h4]) ?_
  rw [← hR, if_neg (by omega), if_neg h3, if_neg h4]
  exact EvS.now
end Go.Proofs.YthdfmbmbjpmlaaaGreatDoor.Rn
end
section
set_option linter.unusedVariables false
set_option linter.unusedSimpArgs false
namespace Go.Proofs.YthdfmbmbjpmlaaaGreatDoor.Rn
open Go Go.RowKit Go.Proofs.YthdfmbmbjpmlaaaGreatDoorW.PrintWords Go.Proofs.YthdfmbmbjpmlaaaGreatDoorW.PrintLast Go.Proofs.YthdfmbmbjpmlaaaGreatDoorW.PrintMore
theorem eqS_eqL : ∀ l m : List Rg, eqS l m = eqL rgQ l m
 | [], [] => rfl
 | [], _ :: _ => rfl
 | _ :: _, [] => rfl
 | x :: l, y :: m => by simp only [eqS, eqL, rgQ, eqS_eqL l m]
theorem same3_any (l m : List Rg) (hl : l.length ≤ 1000000) (A B : Option Addr) (c d : Nat) (W : World) (hC : k80.C W A l.length l) (hc : l.length ≤ c) (hD : k80.C W B m.length m) (hd : m.length ≤ d) :
 Calls Tryz.prog 64 #[.slice A l.length c, .slice B m.length d] W fun e W' => e = .returned (.bool (eqL rgQ l m)) ∧ Below W.heap.size W W' := by
 obtain ⟨K, hK⟩ := ref_same l m hl
 rw [← eqS_eqL]
 refine (goboref3_Same.calls K A c l B d m _ W hC hc hD hd (hK K (Nat.le_refl K))).mono ?_
 rintro e w ⟨rfl, n, rfl⟩
 exact ⟨rfl, pw_below_drewN (Below.refl _ _) _⟩
theorem sameRl_at {l l' : List RE} {m : Nat} {x y : RE} (h : l[m]? = some x) (h' : l'[m]? = some y) : sameRl (l.drop m) (l'.drop m) = (sameRe x y && sameRl (l.drop (m + 1)) (l'.drop (m + 1))) := by
 have hlt := (List.getElem?_eq_some_iff.1 h).1
 obtain rfl : l[m] = x := (List.getElem?_eq_some_iff.1 h).2
 have hlt' := (List.getElem?_eq_some_iff.1 h').1
 obtain rfl : l'[m] = y := (List.getElem?_eq_some_iff.1 h').2
 rw [List.drop_eq_getElem_cons hlt, List.drop_eq_getElem_cons hlt', sameRl]
def RSame6C (x : RE) : Prop := ∀ (y : RE) (w0 W : World) (cs ds : List Value), Below w0.heap.size w0 W → k38.K w0 x cs → k38.K w0 y ds → setOk x →
    Calls Tryz.prog 33 #[.agg cs.toArray, .agg ds.toArray] W fun e W' => e = .returned (.bool (sameRe x y)) ∧ Below W.heap.size W W'
set_option maxHeartbeats 40000000 in
set_option maxRecDepth 100000 in
theorem rsame6_go (x : RE) (hx : ∀ z, z ∈ x.f2 → RSame6C z) : RSame6C x := fun y w0 W cs ds hB hK hK' hso => by
 obtain ⟨A1, c1, A3, c3, rfl, l1, C1, l3, C3⟩ := k38_open hK
 obtain ⟨B1, d1, B3, d3, rfl, m1, D1, m3, D3⟩ := k38_open hK'
 have HX := Aside0.mk hx
 have HC1 := Aside0.mk (Kd.C_below C1 hB)
 have HC3 := Aside0.mk (Kd.C_below C3 hB)
 have HD1 := Aside0.mk (Kd.C_below D1 hB)
 have HD3 := Aside0.mk (Kd.C_below D3 hB)
 have hl3 : x.f2.length ≤ 9223372036854775807 := C3.2.1
 have HSO : Aside0 (x.f1.length ≤ 30 ∧ setOkL x.f2) := ⟨by cases x; exact hso⟩
 obtain ⟨res, hres⟩ : ∃ r, sameRe x y = r := ⟨_, rfl⟩
 have HR : Aside0 (((x.f0 == y.f0) && (eqL rgQ x.f1 y.f1 && sameRl x.f2 y.f2)) = res) := ⟨by rw [← hres]; cases x; rw [sameRe]⟩
 rw [hres]
 clear hx C1 C3 D1 D3 hres hK hK' hB hso
 go_enter Tryz.func33, Tryz.ntmps33
 go_upto_region 1 with (fail)
 obtain ⟨wa, hwa⟩ : ∃ z, W.alloc (.cells #[.int .i64 x.f0, .slice A1 x.f1.length c1, .slice A3 x.f2.length c3] 38) = z := ⟨_, rfl⟩
 obtain ⟨w1, hw1⟩ : ∃ z, wa.alloc (.cells #[.int .i64 y.f0, .slice B1 y.f1.length d1, .slice B3 y.f2.length d3] 38) = z := ⟨_, rfl⟩
 obtain ⟨bg, hbg⟩ : ∃ z, W.heap.size = z := ⟨_, rfl⟩
 have hs1 : wa.heap.size = bg + 1 := by rw [← hwa, ← hbg]; simp
 have HBa : Below W.heap.size W wa := hwa ▸ below1 _ _
 have HBb : Below wa.heap.size wa w1 := hw1 ▸ below1 _ _
 have HB0 : Aside0 (Below W.heap.size W w1) := ⟨join_below HBa HBb⟩
 have HKX : Aside0 (w1.heap[bg]? = some (.cells #[.int .i64 x.f0, .slice A1 x.f1.length c1, .slice A3 x.f2.length c3] 38 (0, 0))) := ⟨blk_below (by rw [← hwa, ← hbg]; exact blk_new _ _) HBb⟩
 have HKY : Aside0 (w1.heap[bg + 1]? = some (.cells #[.int .i64 y.f0, .slice B1 y.f1.length d1, .slice B3 y.f2.length d3] 38 (0, 0))) := ⟨by rw [← hs1, ← hw1]; exact blk_new _ _⟩
 rw [hwa, hw1, hbg]
 clear hwa hw1 hs1 HBa HBb hbg
 have x0 : w1.cell? ⟨bg, 0, none⟩ = some (.int .i64 x.f0) := (blk_cell HKX.out 0).trans rfl
 have x1 : w1.cell? ⟨bg, 1, none⟩ = some (.slice A1 x.f1.length c1) := (blk_cell HKX.out 1).trans rfl
 have x2 : w1.cell? ⟨bg, 2, none⟩ = some (.slice A3 x.f2.length c3) := (blk_cell HKX.out 2).trans rfl
 have y0 : w1.cell? ⟨bg + 1, 0, none⟩ = some (.int .i64 y.f0) := (blk_cell HKY.out 0).trans rfl
 have y1 : w1.cell? ⟨bg + 1, 1, none⟩ = some (.slice B1 y.f1.length d1) := (blk_cell HKY.out 1).trans rfl
 have y2 : w1.cell? ⟨bg + 1, 2, none⟩ = some (.slice B3 y.f2.length d3) := (blk_cell HKY.out 2).trans rfl
 by_cases hk : x.f0 = y.f0
 case neg =>
  have t0 : (x.f0 == y.f0) = false := beq_eq_false_iff_ne.2 hk
  have t0b : (x.f0 != y.f0) = true := by rw [bne, t0]; rfl
  have HRR : Aside0 (res = false) := ⟨by rw [← HR.out, t0]; rfl⟩
  go_wp2
  go_ret
  rw [HRR.out]
  exact ⟨rfl, HB0.out⟩
 have t0 : (x.f0 == y.f0) = true := beq_iff_eq.2 hk
 have t0b : (x.f0 != y.f0) = false := by rw [bne, t0]; rfl
 by_cases hl : x.f2.length = y.f2.length
 case neg =>
  have t1 : ((x.f2.length : Int) == (y.f2.length : Int)) = false := beq_eq_false_iff_ne.2 (by omega)
  have t1b : ((x.f2.length : Int) != (y.f2.length : Int)) = true := by rw [bne, t1]; rfl
  have HRR : Aside0 (res = false) := ⟨by rw [← HR.out, sameRl_eq, eqL_len sameRe hl, Bool.and_false, Bool.and_false]⟩
  clear hk
  go_wp2
  go_ret
  rw [HRR.out]
  exact ⟨rfl, HB0.out⟩
 have t1 : ((x.f2.length : Int) == (y.f2.length : Int)) = true := beq_iff_eq.2 (by omega)
 have t1b : ((x.f2.length : Int) != (y.f2.length : Int)) = false := by rw [bne, t1]; rfl
 have HLL := Aside0.mk hl
 have HRA : Aside0 ((eqL rgQ x.f1 y.f1 && sameRl x.f2 y.f2) = res) := ⟨by rw [← HR.out, t0, Bool.true_and]⟩
 clear hk hl HR
 go_wp2_with fail
 refine (same3_any x.f1 y.f1 (Nat.le_trans HSO.out.1 (by omega)) A1 B1 c1 d1 w1 (Kd.C_below HC1.out HB0.out) l1 (Kd.C_below HD1.out HB0.out) m1).mono ?_
 rintro e w2 ⟨rfl, hb⟩
 have HB2 := Aside0.mk (join_below HB0.out hb)
 have HKX2 := Aside0.mk (blk_below HKX.out hb)
 have HKY2 := Aside0.mk (blk_below HKY.out hb)
 clear hb x0 x1 x2 y0 y1 y2 HKX HKY
 cases hm : eqL rgQ x.f1 y.f1
 · have HRR : Aside0 (res = false) := ⟨by rw [← HRA.out, hm]; rfl⟩
   clear hm
   go_wp2
   go_ret
   rw [HRR.out]
   exact ⟨rfl, HB2.out⟩
 have HRL : Aside0 (sameRl (x.f2.drop 0) (y.f2.drop 0) = res) := ⟨by rw [← HRA.out, hm]; rfl⟩
 clear hm HRA
 go_wp2_with fail
 clear t0 t0b t1 t1b
 go_loopw [5] (fun i w => ∃ m : Nat, i = .int .i64 (m : Int) ∧ m ≤ x.f2.length ∧ Aside0 (Below w2.heap.size w2 w ∧ sameRl (x.f2.drop m) (y.f2.drop m) = res)) (fun i _ => x.f2.length - (intOf i).toNat)
 case atStart => exact ⟨0, rfl, Nat.zero_le _, ⟨⟨Below.refl _ _, HRL.out⟩⟩⟩
 case round =>
  obtain ⟨m, rfl, hm, HS⟩ := hrel
  obtain ⟨w4, hw4⟩ : ∃ z, wr = z := ⟨_, rfl⟩
  rw [hw4] at HS ⊢
  clear hw4
  have HB4 := Aside0.mk (join_below HB2.out HS.out.1)
  have y3 : w4.cell? ⟨bg, 2, none⟩ = some (.slice A3 x.f2.length c3) := (blk_cell (blk_below HKX2.out HS.out.1) 2).trans rfl
  by_cases hlt : m < x.f2.length
  · have e1 : decide (m < x.f2.length) = true := decide_eq_true hlt
    have hil : (m : Int) < x.f2.length := by omega
    have hil2 : (m : Int) < y.f2.length := by have := HLL.out; omega
    obtain ⟨g, og, hA, _, hcell⟩ := row_cells HC3.out (by omega) (by decide)
    subst hA
    obtain ⟨g2, og2, hA, _, hcell2⟩ := row_cells HD3.out (by have := HLL.out; omega) (by decide)
    subst hA
    obtain ⟨u, hu⟩ : ∃ u, x.f2[m]? = some u := ⟨_, List.getElem?_eq_getElem hlt⟩
    obtain ⟨v, hv⟩ : ∃ v, y.f2[m]? = some v := ⟨_, List.getElem?_eq_getElem (by have := HLL.out; omega)⟩
    obtain ⟨cs, _, hK, hcc⟩ := hcell m u hu
    obtain ⟨ds, _, hK2, hcc2⟩ := hcell2 m v hv
    have HKU := Aside0.mk hK
    have HKV := Aside0.mk hK2
    obtain ⟨P1, p1, P3, p3, rfl, _, _, _, _⟩ := k38_open hK
    obtain ⟨Q1, q1, Q3, q3, rfl, _, _, _, _⟩ := k38_open hK2
    have HCC := Aside0.mk (And.intro hcc hcc2)
    have HLT := Aside0.mk hlt
    have HAT := Aside0.mk ((sameRl_at hu hv).symm.trans HS.out.2)
    have HCU := Aside0.mk (HX.out u (List.mem_of_getElem? hu))
    have HSU := Aside0.mk (setOkL_mem HSO.out.2 u (List.mem_of_getElem? hu))
    clear hcell hcell2 hcc hcc2 hK hK2 hu hv hlt
    go_upto_region 6 with (fail)
    clear e1 y3
    have g0 : ∀ p : Later w4, p.wx.cell? ⟨bg, 2, none⟩ = some (.slice (some ⟨g, og, none⟩) x.f2.length c3) := fun p => (blk_cell (blk_below HKX2.out (join_below HS.out.1 p.below)) 2).trans rfl
    have g1 : ∀ p : Later w4, p.wx.cell? ⟨bg + 1, 2, none⟩ = some (.slice (some ⟨g2, og2, none⟩) y.f2.length d3) := fun p => (blk_cell (blk_below HKY2.out (join_below HS.out.1 p.below)) 2).trans rfl
    have z0 : ∀ p : Later w4, p.wx.cell? ⟨g, og + m * 3 + 0, none⟩ = some (.int .i64 u.f0) := fun p => cell_after p.below (cell_after HB4.out (HCC.out.1 0 _ rfl))
    have v0 : ∀ p : Later w4, p.wx.cell? ⟨g2, og2 + m * 3 + 0, none⟩ = some (.int .i64 v.f0) := fun p => cell_after p.below (cell_after HB4.out (HCC.out.2 0 _ rfl))
    have z1 : ∀ p : Later w4, p.wx.cell? ⟨g, og + m * 3 + 1, none⟩ = some (.slice P1 u.f1.length p1) := fun p => cell_after p.below (cell_after HB4.out (HCC.out.1 1 _ rfl))
    have v1 : ∀ p : Later w4, p.wx.cell? ⟨g2, og2 + m * 3 + 1, none⟩ = some (.slice Q1 v.f1.length q1) := fun p => cell_after p.below (cell_after HB4.out (HCC.out.2 1 _ rfl))
    have z2 : ∀ p : Later w4, p.wx.cell? ⟨g, og + m * 3 + 2, none⟩ = some (.slice P3 u.f2.length p3) := fun p => cell_after p.below (cell_after HB4.out (HCC.out.1 2 _ rfl))
    have v2 : ∀ p : Later w4, p.wx.cell? ⟨g2, og2 + m * 3 + 2, none⟩ = some (.slice Q3 v.f2.length q3) := fun p => cell_after p.below (cell_after HB4.out (HCC.out.2 2 _ rfl))
    simp only [Nat.add_zero] at z0 v0
    obtain ⟨wd, hwd⟩ : ∃ z, w4.drew = z := ⟨_, rfl⟩
    have HLW : Aside0 (Below w4.heap.size w4 wd) := ⟨hwd ▸ below_drew1 (Below.refl _ _)⟩
    refine wp_region_held (S := fun w' => ∃ p : Later w4, w' = p.wx) (by kernel_rfl) ?_
    change wpAnyH _ _ _ _ _ _ _ _ (World.drew _)
    rw [hwd]
    clear hwd
    iterate 8 ((first | refine takeR (i := 0) (by decide +kernel) (by rfl) ?_ ?_ ?_ | refine takeR (i := 1) (by decide +kernel) (by rfl) ?_ ?_ ?_ | refine takeR (i := 2) (by decide +kernel) (by rfl) ?_ ?_ ?_ | refine takeR (i := 3) (by decide +kernel) (by rfl) ?_ ?_ ?_ | refine takeR (i := 4) (by decide +kernel) (by rfl) ?_ ?_ ?_ | refine takeR (i := 5) (by decide +kernel) (by rfl) ?_ ?_ ?_ | refine takeR (i := 6) (by decide +kernel) (by rfl) ?_ ?_ ?_ | refine takeR (i := 7) (by decide +kernel) (by rfl) ?_ ?_ ?_); (focus first | exact fun _ _ _ _ h => h | exact fun _ _ _ _ h => HPQ.out _ _ _ _ (by rfl) h); (focus exact ⟨⟨_, HLW.out⟩, rfl⟩); intro K hK; go_simp; (with_reducible refine hK _ ?_); clear hK K)
    iterate 2 ((first | refine takeR (i := 8) (by decide +kernel) (by rfl) ?_ ?_ ?_ | refine takeR (i := 9) (by decide +kernel) (by rfl) ?_ ?_ ?_); (focus first | exact fun _ _ _ _ h => h | exact fun _ _ _ _ h => HPQ.out _ _ _ _ (by rfl) h); (focus exact ⟨⟨_, HLW.out⟩, rfl⟩); intro K hK; go_simp; (with_reducible refine hK _ ?_); clear hK K)
    refine hall1 (i := 10) (by kernel_rfl) (by rfl) (fun K hK => ?_)
    go_simp
    refine (HCU.out v W _ _ _ (join_below HB4.out HLW.out) HKU.out HKV.out HSU.out).mono ?_
    rintro e w5 ⟨rfl, hd⟩
    have HB5 : Aside0 (Below w4.heap.size w4 w5) := ⟨join_below HLW.out hd⟩
    clear hd g0 g1 z0 z1 z2 v0 v1 v2
    refine hK _ _ ⟨⟨_, HB5.out⟩, rfl⟩ ?_
    clear hK K
    (refine takeR (i := 11) (by kernel_rfl) (by rfl) ?_ ?_ ?_; (focus first | exact fun _ _ _ _ h => h | exact fun _ _ _ _ h => HPQ.out _ _ _ _ (by rfl) h); (focus exact ⟨⟨_, HB5.out⟩, rfl⟩); intro K hK; go_simp; (with_reducible refine hK _ ?_); clear hK K)
    refine wpAnyH_done (by kernel_rfl) ?_ _
    clear HLW
    cases hsm : sameRe u v
    · have HRR : Aside0 (res = false) := ⟨by rw [← HAT.out, hsm]; rfl⟩
      clear hsm
      go_wp2
      go_ret
      rw [HRR.out]
      exact ⟨rfl, join_below HB4.out HB5.out⟩
    · have HA2 : Aside0 (sameRl (x.f2.drop (m + 1)) (y.f2.drop (m + 1)) = res) := ⟨by rw [← HAT.out, hsm]; rfl⟩
      clear hsm
      go_wp2
      go_roundw
      case rel => exact ⟨m + 1, by go_num, HLT.out, ⟨⟨join_below HS.out.1 HB5.out, HA2.out⟩⟩⟩
      case measure => have := HLT.out; simp [intOf]; omega
  · have e1 : decide (m < x.f2.length) = false := decide_eq_false hlt
    have HRR : Aside0 (res = true) := ⟨by
     have h := HS.out.2
     rw [List.drop_of_length_le (by omega), List.drop_of_length_le (by have := HLL.out; omega)] at h
     exact h.symm⟩
    clear hlt
    go_wp2
    go_ret
    rw [HRR.out]
    exact ⟨rfl, HB4.out⟩
theorem rsame6_all : ∀ (N : Nat) (x : RE), SizeOf.sizeOf x < N → RSame6C x
 | 0, x, h => absurd h (Nat.not_lt_zero _)
 | N + 1, x, h => rsame6_go x (fun y hy => rsame6_all N y (by
     have h1 := List.sizeOf_lt_of_mem hy
     have h2 : SizeOf.sizeOf x.f2 < SizeOf.sizeOf x := by
      cases x
      simp
      omega
     omega))
theorem rsame6_any (x : RE) : RSame6C x := rsame6_all (SizeOf.sizeOf x + 1) x (Nat.lt_succ_self _)
end Go.Proofs.YthdfmbmbjpmlaaaGreatDoor.Rn
end
