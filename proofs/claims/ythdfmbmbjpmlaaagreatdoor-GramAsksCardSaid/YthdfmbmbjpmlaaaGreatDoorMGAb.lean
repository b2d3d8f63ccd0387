/- texts of this claim, one behind the other. -/
import Derived.Test.YthdfmbmbjpmlaaaGreatDoorMGAa
section
namespace Go.Proofs.YthdfmbmbjpmlaaaGreatDoor.Rn
open Go.RowKit Go.Proofs.YthdfmbmbjpmlaaaGreatDoorW.PrintWords Go.Proofs.YthdfmbmbjpmlaaaGreatDoorW.PrintLast Go.Proofs.YthdfmbmbjpmlaaaGreatDoorW.PrintMore
attribute [local go_sem] max2_int min2_int max_two min_two max_three min_three max_four min_four   -- for this text's walks alone
set_option linter.unusedVariables false
set_option linter.unusedSimpArgs false
def gobolaw6_One.f (a0 : Int) : Option (Int × (List (S80)) × (List (S38))) := some (2, (([(⟨a0, a0⟩ : S80)] : List (S80))), ([] : List (S38)))
set_option maxHeartbeats 8000000 in
set_option maxRecDepth 100000 in
theorem gobolaw6_One.calls (a0 : Int) (r1 : Int) (r2 : List (S80)) (r3 : List (S38)) (w : World) (h : gobolaw6_One.f a0 = some (r1, r2, r3)) :
 Calls Tryz.prog 42 #[.int .i32 a0] w fun e w' => ∃ v1_ v2_ : Value, e = .returned (.agg #[.int .i64 r1, v1_, v2_]) ∧ Kd.R k80 80 w' w.heap.size (fun _ => True) v1_ r2 ∧ Kd.R k38 38 w' w.heap.size (fun k_ => some k_ ≠ (v1_ : Value).ownBlock) v2_ r3 ∧ Below w.heap.size w w' := by
 have hu38 := Tryz.underlying38
 have hu80 := Tryz.underlying80
 have HB := Aside0.mk (Below.refl w.heap.size w)
 have H : (some (2, (([(⟨a0, a0⟩ : S80)] : List (S80))), ([] : List (S38)))) = some (r1, r2, r3) := h
 clear h
 obtain ⟨y131, hy131⟩ : ∃ y_ : List (S80), y_ = (([(⟨a0, a0⟩ : S80)] : List (S80))) := ⟨_, rfl⟩
 replace H : (some (2, y131, ([] : List (S38)))) = some (r1, r2, r3) := by first | (rw [hy131]; with_reducible exact H) | (have H2_ := (Option.bind_some _ _).symm.trans H; rw [hy131]; with_reducible exact H2_) | (have H2_ := (Option.bind_some _ _).symm.trans H; with_reducible exact H2_) | with_reducible exact H | (rw [hy131]; exact H) | exact H
 have Ny131 := Aside0.mk hy131
 clear hy131
 simp only [Option.some.injEq, Prod.mk.injEq] at H
 obtain ⟨rfl, rfl, rfl⟩ := H
 go_enter Tryz.func42, Tryz.ntmps42
 go_wp2_with (first | ((with_reducible refine gate_dst (N := 2) rfl ?_); refine box_event ?hg (N := 2) ?hd (cs := #[.int .i64 0, .slice none 0 0, .slice none 0 0]) (t := 38) ?hr ?_; (case hd => rfl); (case hg => rfl); (case hr => first | (go_simp; done) | (go_simp; rfl)); intro gb130 hg w2 hbox hb; have n0_ := Aside0.mk (below_step (by repeat (first | (with_reducible first | exact HB.out | apply below_alloc | apply pw_below_drewN | apply below_drew1) | exact HB.out)) hb); have n1_ := Aside0.mk (hbox); have n2_ := Aside0.mk ((by rw [hg]; exact (below_size (by repeat (first | (with_reducible first | exact HB.out | apply below_alloc | apply pw_below_drewN | apply below_drew1) | exact HB.out))) : w.heap.size ≤ gb130)); have n3_ := Aside0.mk ((by rw [hg]; exact (below_size (by repeat (first | (with_reducible first | exact HB.out | apply below_alloc | apply pw_below_drewN | apply below_drew1) | exact HB.out))) : w.heap.size ≤ gb130)); clear HB; have HB := n0_; have BK130 := n1_; have GW130 := n2_; have GE130 := n3_; clear n0_ n1_ n2_ n3_; clear hb hbox hg) | ((with_reducible refine gate_dst (N := 6) rfl ?_); refine Kd.R_lit k80 _ 80 ?hg (N := 6) ?hd (xs := ([(⟨a0, a0⟩ : S80)] : List (S80))) (inner := [.int .i32 a0, .int .i32 a0]) (ok := fun _ => True) (okp := fun _ => True) ?hr ?hp (fun _ hk => hk) trivial (Below.refl _ _) (Nat.le_refl _) (by simp) ?_; (case hd => rfl); (case hg => rfl); (case hr => first | (go_simp; done) | (go_simp; rfl)); (case hp => exact (Reps.c2 (show Kd.M k80 _ _ _ (⟨a0, a0⟩ : S80) [.int .i32 a0, .int .i32 a0] from (k80_mkM _ _ _ (⟨a0, a0⟩ : S80) )) (Reps.none _ _))); intro v132 w3 ho4 hb hg_ hnew_; clear hg_ hnew_; (first | rw [← Ny131.out] at ho4 | (simp only [Int.reduceToNat] at ho4; rw [← Ny131.out] at ho4)); have n0_ := Aside0.mk (Kd.R_lower ho4 (below_size (by repeat (first | (with_reducible first | exact HB.out | apply below_alloc | apply pw_below_drewN | apply below_drew1 | refine below_set ?_ GE130.out) | exact HB.out)))); have n1_ := Aside0.mk (blk_below (g := gb130) (o := .cells #[.int .i64 0, .slice none 0 0, .slice none 0 0] 38 (0, 0)) (by (with_reducible repeat (first | refine blk_drewN ?_ _ | refine blk_drew ?_ | refine blk_alloc ?_ _)); exact BK130.out) hb); have n2_ := Aside0.mk (below_step (by repeat (first | (with_reducible first | exact HB.out | apply below_alloc | apply pw_below_drewN | apply below_drew1 | refine below_set ?_ GE130.out) | exact HB.out)) hb); clear BK130; clear HB; have HO133 := n0_; have BK130 := n1_; have HB := n2_; clear n0_ n1_ n2_; clear hb ho4; obtain ⟨Ao5, co5, eo5⟩ := Kd.R_slice HO133.out; subst eo5; have hcz6_0 : w3.cell? ⟨gb130, 0, none⟩ = some (.int .i64 0) := (blk_cell BK130.out 0).trans rfl; have hcz6_1 : w3.cell? ⟨gb130, 1, none⟩ = some (.slice none 0 0) := (blk_cell BK130.out 1).trans rfl; have hcz6_2 : w3.cell? ⟨gb130, 2, none⟩ = some (.slice none 0 0) := (blk_cell BK130.out 2).trans rfl; have hfz6_0 := blk_frozen BK130.out 0; have hfz6_1 := blk_frozen BK130.out 1; have hfz6_2 := blk_frozen BK130.out 2))
 refine bodyPost_ret (results_cell_row rfl _ _ gb130 38 #[.int .i64 2, .slice Ao5 y131.length co5, .slice none 0 0] (0, 0) _ rfl (by (with_reducible repeat (first | refine blk_drewN ?_ _ | refine blk_drew ?_ | refine blk_alloc ?_ _)); refine blk_put (cs := #[.int .i64 2, .slice Ao5 y131.length co5, .slice none 0 0]) ?_ 2 _ rfl; (with_reducible repeat (first | refine blk_drewN ?_ _ | refine blk_drew ?_ | refine blk_alloc ?_ _)); refine blk_put (cs := #[.int .i64 2, .slice none 0 0, .slice none 0 0]) ?_ 1 _ rfl; (with_reducible repeat (first | refine blk_drewN ?_ _ | refine blk_drew ?_ | refine blk_alloc ?_ _)); refine blk_put (cs := #[.int .i64 0, .slice none 0 0, .slice none 0 0]) ?_ 0 _ rfl; (with_reducible repeat (first | refine blk_drewN ?_ _ | refine blk_drew ?_ | refine blk_alloc ?_ _)); exact BK130.out) Tryz.underlying38 rfl (by kernel_rfl)) rfl ?_
 exact ⟨_, _, by first | rfl | (simp [errW_none, errW_some] <;> rfl) | (simp [*, errW_none, errW_some] <;> rfl), by (with_reducible repeat (first | apply Kd.R_alloc | apply Kd.R_drewN | apply Kd.R_drew)); exact Kd.R_mono (Kd.R_far (p := ⟨gb130, 2, none⟩) (Kd.R_far (p := ⟨gb130, 1, none⟩) (Kd.R_far (p := ⟨gb130, 0, none⟩) (Kd.R_types HO133.out BK130.out (by decide)) (fun _ hk => hk.2) (.int .i64 2)) (fun _ hk => hk.2) (.slice Ao5 y131.length co5)) (fun _ hk => hk.2) (.slice none 0 0)) (fun _ hk => trivial), by first | exact Kd.R_nil _ _ _ _ _ | exact Kd.N_nil _ _ _ _ _ | exact Kd.V_nil _ _ _ _ _ | exact Kd.Q_nil _ _ _ _ _ | exact Kd.S_nil _ _ _ _ _, by repeat (first | (with_reducible first | exact HB.out | apply below_alloc | apply pw_below_drewN | apply below_drew1 | refine below_set ?_ GE130.out) | exact HB.out)⟩
mutual
def gram_Count.l0 : Nat → Int → Int → List (S47) → Int → Int → Option (Int × Int)
 | 0, _, _, _, _, _ => none
 | k + 1, x4, x5, x11, x12, x13 => if x13 < x12 then (if 0 ≤ x13 then (if x13 < (x11.length : Int) then ((gram_Count.f k ((rd_T47 x11 x13).f0) ((rd_T47 x11 x13).f1) ((rd_T47 x11 x13).f2) ((rd_T47 x11 x13).f3)).bind fun bt259 => (gram_Count.l0 k (wrap64 (x4 + bt259.1)) (mx x5 bt259.2) x11 x12 (wrap64 (x13 + 1)))) else (none)) else (none)) else (some (x4, wrap64 (x5 + 1)))
def gram_Count.f : Nat → Int → List ByteArray → List ByteArray → List (S47) → Option (Int × Int)
 | 0, _, _, _, _ => none
 | k + 1, a0_0, l0_1, l0_2, l0_3 => gram_Count.l0 k 1 0 l0_3 (l0_3.length : Int) 0
end
theorem gram_Count.mono_l : ∀ k, (∀ y0 y1 y2 y3, LeO (gram_Count.f k y0 y1 y2 y3) (gram_Count.f (k + 1) y0 y1 y2 y3)) ∧ (∀ y0 y1 y2 y3 y4, LeO (gram_Count.l0 k y0 y1 y2 y3 y4) (gram_Count.l0 (k + 1) y0 y1 y2 y3 y4))
 | 0 => ⟨fun _ _ _ _ r h => by simp [gram_Count.f] at h, fun _ _ _ _ _ r h => by simp [gram_Count.l0] at h⟩
 | k + 1 => by
  obtain ⟨ih0, ih1⟩ := gram_Count.mono_l k
  refine ⟨?_, ?_⟩
  · intro y0 y1 y2 y3
    unfold gram_Count.f
    repeat' first
    | (with_reducible exact ih0 _ _ _ _)
    | (with_reducible exact ih1 _ _ _ _ _)
    | (with_reducible exact LeO.refl _)
    | (with_reducible exact LeO.none _)
    | (with_reducible refine LeO.ite ?_ ?_)
    | (with_reducible refine LeO.bind ?_ (fun _ => ?_))
    | exact ih0 _ _ _ _
    | exact ih1 _ _ _ _ _
    | exact LeO.none _
    | refine LeO.ite ?_ ?_
    | refine LeO.bind ?_ (fun _ => ?_)
  · intro y0 y1 y2 y3 y4
    unfold gram_Count.l0
    repeat' first
    | (with_reducible exact ih0 _ _ _ _)
    | (with_reducible exact ih1 _ _ _ _ _)
    | (with_reducible exact LeO.refl _)
    | (with_reducible exact LeO.none _)
    | (with_reducible refine LeO.ite ?_ ?_)
    | (with_reducible refine LeO.bind ?_ (fun _ => ?_))
    | exact ih0 _ _ _ _
    | exact ih1 _ _ _ _ _
    | exact LeO.none _
    | refine LeO.ite ?_ ?_
    | refine LeO.bind ?_ (fun _ => ?_)
theorem gram_Count.mono : ∀ a0 a1 a2 a3 k, LeO (gram_Count.f k a0 a1 a2 a3) (gram_Count.f (k + 1) a0 a1 a2 a3) := by
 intro a0 a1 a2 a3 k
 obtain ⟨ih0, ih1⟩ := gram_Count.mono_l k
 exact ih0 a0 a1 a2 a3
set_option maxHeartbeats 8000000 in
set_option maxRecDepth 100000 in
theorem gram_Count.calls (k : Nat) : ∀ (a0_0 : Int) (A0_1 : Option Addr) (c0_1 : Nat) (l0_1 : List ByteArray) (A0_2 : Option Addr) (c0_2 : Nat) (l0_2 : List ByteArray) (A0_3 : Option Addr) (c0_3 : Nat) (l0_3 : List (S47)) (r1 : Int) (r2 : Int) (w : World) (hr0_1 : Kd.C Kd.string w A0_1 l0_1.length l0_1) (hc0_1 : l0_1.length ≤ c0_1) (hr0_2 : Kd.C Kd.string w A0_2 l0_2.length l0_2) (hc0_2 : l0_2.length ≤ c0_2) (hr0_3 : Kd.C k47 w A0_3 l0_3.length l0_3) (hc0_3 : l0_3.length ≤ c0_3) (h : gram_Count.f k a0_0 l0_1 l0_2 l0_3 = some (r1, r2)),
 Calls Tryz.prog 18 #[.agg #[.int .i64 a0_0, .slice A0_1 l0_1.length c0_1, .slice A0_2 l0_2.length c0_2, .slice A0_3 l0_3.length c0_3]] w fun e w' => e = .returned (.tuple #[.int .i64 r1, .int .i64 r2]) ∧ Below w.heap.size w w' := by
 induction k using Nat.strongRecOn with
 | _ k ih =>
 intro a0_0 A0_1 c0_1 l0_1 A0_2 c0_2 l0_2 A0_3 c0_3 l0_3 r1 r2 w hr0_1 hc0_1 hr0_2 hc0_2 hr0_3 hc0_3 h
 cases k with
 | zero => exact absurd h (by simp [gram_Count.f])
 | succ k =>
 simp only [gram_Count.f] at h
 have hu47 := Tryz.underlying47
 have HR0_1 := Aside0.mk hr0_1
 have HC0_1 := Aside0.mk hc0_1
 clear hr0_1 hc0_1
 have HR0_2 := Aside0.mk hr0_2
 have HC0_2 := Aside0.mk hc0_2
 clear hr0_2 hc0_2
 have HR0_3 := Aside0.mk hr0_3
 have HC0_3 := Aside0.mk hc0_3
 clear hr0_3 hc0_3
 have HB := Aside0.mk (Below.refl w.heap.size w)
 have H : (gram_Count.l0 k 1 0 l0_3 (l0_3.length : Int) 0) = some (r1, r2) := h
 clear h
 have H' := Aside0.mk H
 clear H
 go_enter Tryz.func18, Tryz.ntmps18
 go_wp2_with (first | ((with_reducible refine gate_dst (N := 1) rfl ?_); refine box_event ?hg (N := 1) ?hd (cs := #[.int .i64 a0_0, .slice A0_1 l0_1.length c0_1, .slice A0_2 l0_2.length c0_2, .slice A0_3 l0_3.length c0_3]) (t := 47) ?hr ?_; (case hd => rfl); (case hg => rfl); (case hr => first | (go_simp; done) | (go_simp; rfl)); intro gb256 hg w2 hbox hb; have n0_ := Aside0.mk (below_step (by repeat (first | (with_reducible first | exact HB.out | apply below_alloc | apply pw_below_drewN | apply below_drew1) | exact HB.out)) hb); have n1_ := Aside0.mk (hbox); have n2_ := Aside0.mk ((by rw [hg]; exact (below_size (by repeat (first | (with_reducible first | exact HB.out | apply below_alloc | apply pw_below_drewN | apply below_drew1) | exact HB.out))) : w.heap.size ≤ gb256)); have n3_ := Aside0.mk ((by rw [hg]; exact (below_size (by repeat (first | (with_reducible first | exact HB.out | apply below_alloc | apply pw_below_drewN | apply below_drew1) | exact HB.out))) : w.heap.size ≤ gb256)); clear HB; have HB := n0_; have BK256 := n1_; have GW256 := n2_; have GE256 := n3_; clear n0_ n1_ n2_ n3_; clear hb hbox hg; have hcz3_0 : w2.cell? ⟨gb256, 0, none⟩ = some (.int .i64 a0_0) := (blk_cell BK256.out 0).trans rfl; have hcz3_1 : w2.cell? ⟨gb256, 1, none⟩ = some (.slice A0_1 l0_1.length c0_1) := (blk_cell BK256.out 1).trans rfl; have hcz3_2 : w2.cell? ⟨gb256, 2, none⟩ = some (.slice A0_2 l0_2.length c0_2) := (blk_cell BK256.out 2).trans rfl; have hcz3_3 : w2.cell? ⟨gb256, 3, none⟩ = some (.slice A0_3 l0_3.length c0_3) := (blk_cell BK256.out 3).trans rfl; have hfz3_0 := blk_frozen BK256.out 0; have hfz3_1 := blk_frozen BK256.out 1; have hfz3_2 := blk_frozen BK256.out 2; have hfz3_3 := blk_frozen BK256.out 3))
 go_loopg [4, 5, 13] k (fun kq v4 v5 v13 w' => ∃ (x4_1 : Int) (x5_1 : Int) (x13_1 : Int), v4 = .int .i64 x4_1 ∧ v5 = .int .i64 x5_1 ∧ v13 = .int .i64 x13_1 ∧ Aside0 (gram_Count.l0 kq x4_1 x5_1 l0_3 (l0_3.length : Int) x13_1 = some (r1, r2)) ∧ Aside0 (kq ≤ k) ∧ Aside0 (w'.heap[gb256]? = some (.cells #[.int .i64 a0_0, (.slice A0_1 l0_1.length c0_1), (.slice A0_2 l0_2.length c0_2), (.slice A0_3 l0_3.length c0_3)] 47 (0, 0))) ∧ Aside0 (Below w.heap.size w w'))
 case atStart => exact ⟨(1), (0), (0), (by first | rfl | (simp; done) | (simp [*]; done)), (by first | rfl | (simp; done) | (simp [*]; done)), (by first | rfl | (simp; done) | (simp [*]; done)), H', ⟨Nat.le_refl _⟩, ⟨by (with_reducible repeat (first | refine blk_drewN ?_ _ | refine blk_drew ?_ | refine blk_alloc ?_ _)); exact BK256.out⟩, ⟨by repeat (first | (with_reducible first | exact HB.out | apply below_alloc | apply pw_below_drewN | apply below_drew1 | refine below_set ?_ GE256.out) | exact HB.out)⟩⟩
 case round =>
  clear H'
  try clear hcz3_0
  try clear hcz3_1
  try clear hcz3_2
  try clear hcz3_3
  try clear hfz3_0
  try clear hfz3_1
  try clear hfz3_2
  try clear hfz3_3
  obtain ⟨x4_1, x5_1, x13_1, rfl, rfl, rfl, HA, HK1, BK256, HB⟩ := hrel
  cases gk with
  | zero => exact absurd HA.out (by simp [gram_Count.l0])
  | succ k1 =>
   have H := HA.out
   clear HA
   simp only [gram_Count.l0] at H
   by_cases c4 : x13_1 < (l0_3.length : Int)
   · rw [if_pos c4] at H
     have c4b0 : decide (x13_1 < (l0_3.length : Int)) = true := decide_eq_true c4
     clear c4
     by_cases c5 : 0 ≤ x13_1
     · rw [if_pos c5] at H
       have c5b0 : decide (0 ≤ x13_1) = true := decide_eq_true c5
       clear c5
       by_cases c6 : x13_1 < (l0_3.length : Int)
       · rw [if_pos c6] at H
         have c6b0 : decide (x13_1 < (l0_3.length : Int)) = true := decide_eq_true c6
         clear c6
         replace H := Option.bind_eq_some_iff.mp H
         obtain ⟨⟨t259, t260⟩, A70, H⟩ := H
         replace H : (gram_Count.l0 k1 (wrap64 (x4_1 + t259)) (mx x5_1 t260) l0_3 (l0_3.length : Int) (wrap64 (x13_1 + 1))) = some (r1, r2) := H
         have A7 := Aside0.mk A70
         clear A70
         obtain ⟨ji8, hji8⟩ : ∃ j_ : Int, (mx x5_1 t260) = j_ := ⟨_, rfl⟩
         replace H : (gram_Count.l0 k1 (wrap64 (x4_1 + t259)) ji8 l0_3 (l0_3.length : Int) (wrap64 (x13_1 + 1))) = some (r1, r2) := by first | (rw [hji8] at H; exact H) | (simp only [hji8] at H ⊢; exact H)
         (try rw [hji8] at A7)
         have hji8_ : (if x5_1 < t260 then t260 else x5_1) = ji8 := hji8
         have H' := Aside0.mk H
         clear H
         have p257 : 0 ≤ (x13_1 : Int) := of_decide_eq_true (by first | (with_reducible assumption) | assumption)
         have q257 : x13_1 < (l0_3.length : Int) := of_decide_eq_true (by first | (with_reducible assumption) | assumption)
         obtain ⟨ad257, A257_1, c257_1, A257_2, c257_2, A257_3, c257_3, e257, hx257_0, hx257_1, hx257_2, hx257_3, hl257_1, hi257_1, hl257_2, hi257_2, hl257_3, hi257_3⟩ := at_T47 HR0_3.out x13_1 p257 q257
         cases e257
         replace hx257_0 := (HB.out.cell (World.block_lt_of_cell? w _ hx257_0)).trans hx257_0
         replace hx257_1 := (HB.out.cell (World.block_lt_of_cell? w _ hx257_1)).trans hx257_1
         replace hx257_2 := (HB.out.cell (World.block_lt_of_cell? w _ hx257_2)).trans hx257_2
         replace hx257_3 := (HB.out.cell (World.block_lt_of_cell? w _ hx257_3)).trans hx257_3
         have HR257_1 := Aside0.mk hi257_1
         have HC257_1 := Aside0.mk hl257_1
         clear hi257_1 hl257_1
         have HR257_2 := Aside0.mk hi257_2
         have HC257_2 := Aside0.mk hl257_2
         clear hi257_2 hl257_2
         have HR257_3 := Aside0.mk hi257_3
         have HC257_3 := Aside0.mk hl257_3
         clear hi257_3 hl257_3
         replace p257 := eq_true p257
         replace q257 := eq_true q257
         go_wp2_with (first | ((with_reducible refine gate_dst (N := 7) rfl ?_); refine box_event ?hg (N := 7) ?hd (cs := #[.int .i64 0, .slice none 0 0, .slice none 0 0, .slice none 0 0]) (t := 47) ?hr ?_; (case hd => rfl); (case hg => rfl); (case hr => first | (go_simp; done) | (go_simp; rfl)); intro gb258 hg w9 hbox hb; have n0_ := Aside0.mk (blk_below (g := gb256) (o := .cells #[.int .i64 a0_0, .slice A0_1 l0_1.length c0_1, .slice A0_2 l0_2.length c0_2, .slice (some ad257) l0_3.length c0_3] 47 (0, 0)) (by (with_reducible repeat (first | refine blk_drewN ?_ _ | refine blk_drew ?_ | refine blk_alloc ?_ _)); exact BK256.out) hb); have n1_ := Aside0.mk (below_step (by repeat (first | (with_reducible first | exact HB.out | apply below_alloc | apply pw_below_drewN | apply below_drew1 | refine below_set ?_ GE256.out) | exact HB.out)) hb); have n2_ := Aside0.mk (hbox); have n3_ := Aside0.mk ((by rw [hg]; exact (below_size (by repeat (first | (with_reducible first | exact HB.out | apply below_alloc | apply pw_below_drewN | apply below_drew1 | refine below_set ?_ GE256.out) | exact HB.out))) : w.heap.size ≤ gb258)); have n4_ := Aside0.mk ((by rw [hg]; exact (below_size (by repeat (first | (with_reducible first | exact HB.out | apply below_alloc | apply pw_below_drewN | apply below_drew1 | refine below_set ?_ GE256.out) | exact HB.out))) : w.heap.size ≤ gb258)); have n5_ := Aside0.mk ((by rw [hg]; exact Nat.ne_of_lt (blk_lt (g := gb256) (o := .cells #[.int .i64 a0_0, .slice A0_1 l0_1.length c0_1, .slice A0_2 l0_2.length c0_2, .slice (some ad257) l0_3.length c0_3] 47 (0, 0)) (by (with_reducible repeat (first | refine blk_drewN ?_ _ | refine blk_drew ?_ | refine blk_alloc ?_ _)); exact BK256.out)) : gb256 ≠ gb258)); have n6_ := Aside0.mk ((by rw [hg]; exact Nat.ne_of_gt (blk_lt (g := gb256) (o := .cells #[.int .i64 a0_0, .slice A0_1 l0_1.length c0_1, .slice A0_2 l0_2.length c0_2, .slice (some ad257) l0_3.length c0_3] 47 (0, 0)) (by (with_reducible repeat (first | refine blk_drewN ?_ _ | refine blk_drew ?_ | refine blk_alloc ?_ _)); exact BK256.out)) : gb258 ≠ gb256)); clear BK256; clear HB; have BK256 := n0_; have HB := n1_; have BK258 := n2_; have GW258 := n3_; have GE258 := n4_; have NB256_258 := n5_; have NB258_256 := n6_; clear n0_ n1_ n2_ n3_ n4_ n5_ n6_; clear hb hbox hg; have hnb10 := NB258_256.out; have hnc10 := NB256_258.out; have hcz11_0 : w9.cell? ⟨gb258, 0, none⟩ = some (.int .i64 0) := (blk_cell BK258.out 0).trans rfl; have hcz11_1 : w9.cell? ⟨gb258, 1, none⟩ = some (.slice none 0 0) := (blk_cell BK258.out 1).trans rfl; have hcz11_2 : w9.cell? ⟨gb258, 2, none⟩ = some (.slice none 0 0) := (blk_cell BK258.out 2).trans rfl; have hcz11_3 : w9.cell? ⟨gb258, 3, none⟩ = some (.slice none 0 0) := (blk_cell BK258.out 3).trans rfl; have hfz11_0 := blk_frozen BK258.out 0; have hfz11_1 := blk_frozen BK258.out 1; have hfz11_2 := blk_frozen BK258.out 2; have hfz11_3 := blk_frozen BK258.out 3) | ((with_reducible refine gate_callee (f := 18) rfl ?_); refine goesL_ (some 19) rfl rfl Tryz.func18 (by kernel_rfl) rfl #[.agg #[.int .i64 ((rd_T47 l0_3 x13_1).f0), .slice A257_1 ((rd_T47 l0_3 x13_1).f1).length c257_1, .slice A257_2 ((rd_T47 l0_3 x13_1).f2).length c257_2, .slice A257_3 ((rd_T47 l0_3 x13_1).f3).length c257_3]] rfl (by (try simp only [List.map_toArray, List.map_cons, List.map_nil]); first | done | rfl | (simp only [List.length_drop, List.length_take]; rfl)) ?_; (with_reducible refine (ih k1 (by have := HK1.out; omega) ((rd_T47 l0_3 x13_1).f0) _ _ ((rd_T47 l0_3 x13_1).f1) _ _ ((rd_T47 l0_3 x13_1).f2) _ _ ((rd_T47 l0_3 x13_1).f3) t259 t260 _ ?side1 ?side2 ?side3 ?side4 ?side5 ?side6 A7.out).mono ?_); (case side1 => exact Kd.C_below HR257_1.out (by repeat (first | (with_reducible first | exact HB.out | apply below_alloc | apply pw_below_drewN | apply below_drew1 | refine below_set ?_ GE256.out | refine below_set ?_ GE258.out) | exact HB.out))); (case side2 => exact HC257_1.out); (case side3 => exact Kd.C_below HR257_2.out (by repeat (first | (with_reducible first | exact HB.out | apply below_alloc | apply pw_below_drewN | apply below_drew1 | refine below_set ?_ GE256.out | refine below_set ?_ GE258.out) | exact HB.out))); (case side4 => exact HC257_2.out); (case side5 => exact Kd.C_below HR257_3.out (by repeat (first | (with_reducible first | exact HB.out | apply below_alloc | apply pw_below_drewN | apply below_drew1 | refine below_set ?_ GE256.out | refine below_set ?_ GE258.out) | exact HB.out))); (case side6 => exact HC257_3.out); rintro e w12 ⟨rfl, hb⟩; refine ⟨_, rfl, ?_⟩; have n0_ := Aside0.mk (blk_below (g := gb256) (o := .cells #[.int .i64 a0_0, .slice A0_1 l0_1.length c0_1, .slice A0_2 l0_2.length c0_2, .slice (some ad257) l0_3.length c0_3] 47 (0, 0)) (by (with_reducible repeat (first | refine blk_drewN ?_ _ | refine blk_drew ?_ | refine blk_alloc ?_ _)); refine blk_far ?_ NB256_258.out _; (with_reducible repeat (first | refine blk_drewN ?_ _ | refine blk_drew ?_ | refine blk_alloc ?_ _)); refine blk_far ?_ NB256_258.out _; (with_reducible repeat (first | refine blk_drewN ?_ _ | refine blk_drew ?_ | refine blk_alloc ?_ _)); refine blk_far ?_ NB256_258.out _; (with_reducible repeat (first | refine blk_drewN ?_ _ | refine blk_drew ?_ | refine blk_alloc ?_ _)); refine blk_far ?_ NB256_258.out _; (with_reducible repeat (first | refine blk_drewN ?_ _ | refine blk_drew ?_ | refine blk_alloc ?_ _)); exact BK256.out) hb); have n1_ := Aside0.mk (blk_below (g := gb258) (o := .cells #[.int .i64 ((rd_T47 l0_3 x13_1).f0), .slice A257_1 ((rd_T47 l0_3 x13_1).f1).length c257_1, .slice A257_2 ((rd_T47 l0_3 x13_1).f2).length c257_2, .slice A257_3 ((rd_T47 l0_3 x13_1).f3).length c257_3] 47 (0, 0)) (by (with_reducible repeat (first | refine blk_drewN ?_ _ | refine blk_drew ?_ | refine blk_alloc ?_ _)); refine blk_put (cs := #[.int .i64 ((rd_T47 l0_3 x13_1).f0), .slice A257_1 ((rd_T47 l0_3 x13_1).f1).length c257_1, .slice A257_2 ((rd_T47 l0_3 x13_1).f2).length c257_2, .slice none 0 0]) ?_ 3 _ rfl; (with_reducible repeat (first | refine blk_drewN ?_ _ | refine blk_drew ?_ | refine blk_alloc ?_ _)); refine blk_put (cs := #[.int .i64 ((rd_T47 l0_3 x13_1).f0), .slice A257_1 ((rd_T47 l0_3 x13_1).f1).length c257_1, .slice none 0 0, .slice none 0 0]) ?_ 2 _ rfl; (with_reducible repeat (first | refine blk_drewN ?_ _ | refine blk_drew ?_ | refine blk_alloc ?_ _)); refine blk_put (cs := #[.int .i64 ((rd_T47 l0_3 x13_1).f0), .slice none 0 0, .slice none 0 0, .slice none 0 0]) ?_ 1 _ rfl; (with_reducible repeat (first | refine blk_drewN ?_ _ | refine blk_drew ?_ | refine blk_alloc ?_ _)); refine blk_put (cs := #[.int .i64 0, .slice none 0 0, .slice none 0 0, .slice none 0 0]) ?_ 0 _ rfl; (with_reducible repeat (first | refine blk_drewN ?_ _ | refine blk_drew ?_ | refine blk_alloc ?_ _)); exact BK258.out) hb); have n2_ := Aside0.mk (below_step (by repeat (first | (with_reducible first | exact HB.out | apply below_alloc | apply pw_below_drewN | apply below_drew1 | refine below_set ?_ GE256.out | refine below_set ?_ GE258.out) | exact HB.out)) hb); clear BK256; clear BK258; clear HB; have BK256 := n0_; have BK258 := n1_; have HB := n2_; clear n0_ n1_ n2_; (try clear hb); (try clear hb2); (try clear hk); (try clear hi)))
         go_roundg k1
         case measure => have := HK1.out; omega
         case rel => exact ⟨(wrap64 (x4_1 + t259)), (ji8), (wrap64 (x13_1 + 1)), (by first | rfl | (simp; done) | (simp [*]; done)), (by first | rfl | (simp; done) | (simp only [← hji8] <;> (first | rfl | simp)) | (simp [*]; done)), (by first | rfl | (simp; done) | (simp [*]; done)), H', ⟨by have := HK1.out; omega⟩, ⟨by (with_reducible repeat (first | refine blk_drewN ?_ _ | refine blk_drew ?_ | refine blk_alloc ?_ _)); exact BK256.out⟩, ⟨by repeat (first | (with_reducible first | exact HB.out | apply below_alloc | apply pw_below_drewN | apply below_drew1 | refine below_set ?_ GE256.out | refine below_set ?_ GE258.out) | exact HB.out)⟩⟩
       · rw [if_neg c6] at H
         exact absurd H (by simp)
     · rw [if_neg c5] at H
       exact absurd H (by simp)
   · rw [if_neg c4] at H
     have c4b0 : decide (x13_1 < (l0_3.length : Int)) = false := decide_eq_false c4
     clear c4
     simp only [Option.some.injEq, Prod.mk.injEq] at H
     obtain ⟨rfl, rfl⟩ := H
     go_wp2
     go_ret2
     exact ⟨by first | rfl | (simp [errW_none, errW_some] <;> rfl) | (simp [*, errW_none, errW_some] <;> rfl), by repeat (first | (with_reducible first | exact HB.out | apply below_alloc | apply pw_below_drewN | apply below_drew1 | refine below_set ?_ GE256.out) | exact HB.out)⟩
def slices_Index_string_string.l0 : Nat → List ByteArray → ByteArray → Int → Int → Option (Int)
 | 0, _, _, _, _ => none
 | k + 1, x0, x1, x7, x8 => if x8 < x7 then (if 0 ≤ x8 then (if x8 < (x0.length : Int) then (if x1.toList = (rdOf ByteArray.empty x0 x8).toList then (some x8) else (slices_Index_string_string.l0 k x0 x1 x7 (wrap64 (x8 + 1)))) else (none)) else (none)) else (some (-1))
def slices_Index_string_string.f (k : Nat) (l0 : List ByteArray) (a1 : ByteArray) : Option (Int) := slices_Index_string_string.l0 k l0 a1 (l0.length : Int) 0
theorem slices_Index_string_string.mono_l : ∀ k, (∀ y0 y1 y2 y3, LeO (slices_Index_string_string.l0 k y0 y1 y2 y3) (slices_Index_string_string.l0 (k + 1) y0 y1 y2 y3))
 | 0 => fun _ _ _ _ r h => by simp [slices_Index_string_string.l0] at h
 | k + 1 => by
  have ih0 := slices_Index_string_string.mono_l k
  · intro y0 y1 y2 y3
    unfold slices_Index_string_string.l0
    repeat' first
    | (with_reducible exact ih0 _ _ _ _)
    | (with_reducible exact LeO.refl _)
    | (with_reducible exact LeO.none _)
    | (with_reducible refine LeO.ite ?_ ?_)
    | (with_reducible refine LeO.bind ?_ (fun _ => ?_))
    | exact ih0 _ _ _ _
    | exact LeO.none _
    | refine LeO.ite ?_ ?_
    | refine LeO.bind ?_ (fun _ => ?_)
theorem slices_Index_string_string.mono : ∀ a0 a1 k, LeO (slices_Index_string_string.f k a0 a1) (slices_Index_string_string.f (k + 1) a0 a1) := by
 intro a0 a1 k
 have ih0 := slices_Index_string_string.mono_l k
 unfold slices_Index_string_string.f
 repeat' first
  | (with_reducible exact ih0 _ _ _ _)
  | (with_reducible exact LeO.refl _)
  | (with_reducible exact LeO.none _)
  | (with_reducible refine LeO.ite ?_ ?_)
  | (with_reducible refine LeO.bind ?_ (fun _ => ?_))
  | exact ih0 _ _ _ _
  | exact LeO.none _
  | refine LeO.ite ?_ ?_
  | refine LeO.bind ?_ (fun _ => ?_)
set_option maxHeartbeats 8000000 in
set_option maxRecDepth 100000 in
theorem slices_Index_string_string.calls (k : Nat) (A0 : Option Addr) (c0 : Nat) (l0 : List ByteArray) (a1 : ByteArray) (r : Int) (w : World) (hr0 : Kd.C Kd.string w A0 l0.length l0) (hc0 : l0.length ≤ c0) (h : slices_Index_string_string.f k l0 a1 = some r) :
 Calls Tryz.prog 65 #[.slice A0 l0.length c0, .string a1] w fun e w' => e = .returned (.int .i64 r) ∧ Drawn0 w w' := by
 have HR0 := Aside0.mk hr0
 have HC0 := Aside0.mk hc0
 clear hr0 hc0
 have H : (slices_Index_string_string.l0 k l0 a1 (l0.length : Int) 0) = some r := h
 clear h
 have H' := Aside0.mk H
 clear H
 go_enter Tryz.func65, Tryz.ntmps65
 go_wp2
 go_loopg [8] k (fun kq v8 w' => ∃ (x8_1 : Int), v8 = .int .i64 x8_1 ∧ Aside0 (slices_Index_string_string.l0 kq l0 a1 (l0.length : Int) x8_1 = some r) ∧ Aside0 (kq ≤ k) ∧ Drawn0 w w')
 case atStart => exact ⟨(0), (by first | rfl | (simp; done) | (simp [*]; done)), H', ⟨Nat.le_refl _⟩, by repeat (first | exact Drawn0.refl _ | apply Drawn0.step)⟩
 case round =>
  clear H'
  obtain ⟨x8_1, rfl, HA, HK1, ⟨m1, rfl⟩⟩ := hrel
  cases gk with
  | zero => exact absurd HA.out (by simp [slices_Index_string_string.l0])
  | succ k1 =>
   have H := HA.out
   clear HA
   simp only [slices_Index_string_string.l0] at H
   by_cases c3 : x8_1 < (l0.length : Int)
   · rw [if_pos c3] at H
     have c3b0 : decide (x8_1 < (l0.length : Int)) = true := decide_eq_true c3
     clear c3
     by_cases c4 : 0 ≤ x8_1
     · rw [if_pos c4] at H
       have c4b0 : decide (0 ≤ x8_1) = true := decide_eq_true c4
       clear c4
       by_cases c5 : x8_1 < (l0.length : Int)
       · rw [if_pos c5] at H
         have c5b0 : decide (x8_1 < (l0.length : Int)) = true := decide_eq_true c5
         clear c5
         by_cases c6 : a1.toList = (rdOf ByteArray.empty l0 x8_1).toList
         · rw [if_pos c6] at H
           have c6b0 : (a1.toList == (rdOf ByteArray.empty l0 x8_1).toList) = true := beq_iff_eq.mpr c6
           have c6b1 : (a1.toList != (rdOf ByteArray.empty l0 x8_1).toList) = false := bne_eq_false_iff_eq.mpr c6
           clear c6
           obtain rfl := Option.some.inj H
           have p126 : 0 ≤ (x8_1 : Int) := of_decide_eq_true (by first | (with_reducible assumption) | assumption)
           have q126 : x8_1 < (l0.length : Int) := of_decide_eq_true (by first | (with_reducible assumption) | assumption)
           obtain ⟨ad126, e126, hx126_0⟩ := Kd.at_string HR0.out x8_1 p126 q126
           cases e126
           replace p126 := eq_true p126
           replace q126 := eq_true q126
           go_wp2
           go_ret
           exact ⟨by first | rfl | (simp; done) | (simp [*]; done), by repeat (first | exact Drawn0.refl _ | apply Drawn0.step)⟩
         · rw [if_neg c6] at H
           have c6b0 : (a1.toList == (rdOf ByteArray.empty l0 x8_1).toList) = false := beq_eq_false_iff_ne.mpr c6
           have c6b1 : (a1.toList != (rdOf ByteArray.empty l0 x8_1).toList) = true := bne_iff_ne.mpr c6
           have H' := Aside0.mk H
           clear H
           have p126 : 0 ≤ (x8_1 : Int) := of_decide_eq_true (by first | (with_reducible assumption) | assumption)
           have q126 : x8_1 < (l0.length : Int) := of_decide_eq_true (by first | (with_reducible assumption) | assumption)
           obtain ⟨ad126, e126, hx126_0⟩ := Kd.at_string HR0.out x8_1 p126 q126
           cases e126
           replace p126 := eq_true p126
           replace q126 := eq_true q126
           go_wp2
           go_roundg k1
           case measure => have := HK1.out; omega
           case rel => exact ⟨(wrap64 (x8_1 + 1)), (by first | rfl | (simp; done) | (simp [*]; done)), H', ⟨by have := HK1.out; omega⟩, by repeat (first | exact Drawn0.refl _ | apply Drawn0.step)⟩
       · rw [if_neg c5] at H
         exact absurd H (by simp)
     · rw [if_neg c4] at H
       exact absurd H (by simp)
   · rw [if_neg c3] at H
     have c3b0 : decide (x8_1 < (l0.length : Int)) = false := decide_eq_false c3
     clear c3
     obtain rfl := Option.some.inj H
     go_wp2
     go_ret
     exact ⟨by first | rfl | (simp; done) | (simp [*]; done), by repeat (first | exact Drawn0.refl _ | apply Drawn0.step)⟩
def slices_Contains_string_string.f (k : Nat) (l0 : List ByteArray) (a1 : ByteArray) : Option (Bool) := (slices_Index_string_string.f k l0 a1).bind fun t127 => (some (decide (t127 ≥ 0)))
theorem slices_Contains_string_string.mono : ∀ a0 a1 k, LeO (slices_Contains_string_string.f k a0 a1) (slices_Contains_string_string.f (k + 1) a0 a1) := by
 intro a0 a1 k
 unfold slices_Contains_string_string.f
 repeat' first
  | (with_reducible exact slices_Index_string_string.mono _ _ _)
  | (with_reducible exact LeO.refl _)
  | (with_reducible exact LeO.none _)
  | (with_reducible refine LeO.ite ?_ ?_)
  | (with_reducible refine LeO.bind ?_ (fun _ => ?_))
  | exact slices_Index_string_string.mono _ _ _
  | exact LeO.none _
  | refine LeO.ite ?_ ?_
  | refine LeO.bind ?_ (fun _ => ?_)
set_option maxHeartbeats 8000000 in
set_option maxRecDepth 100000 in
theorem slices_Contains_string_string.calls (k : Nat) (A0 : Option Addr) (c0 : Nat) (l0 : List ByteArray) (a1 : ByteArray) (r : Bool) (w : World) (hr0 : Kd.C Kd.string w A0 l0.length l0) (hc0 : l0.length ≤ c0) (h : slices_Contains_string_string.f k l0 a1 = some r) :
 Calls Tryz.prog 36 #[.slice A0 l0.length c0, .string a1] w fun e w' => e = .returned (.bool r) ∧ Drawn0 w w' := by
 have HR0 := Aside0.mk hr0
 have HC0 := Aside0.mk hc0
 clear hr0 hc0
 have H : ((slices_Index_string_string.f k l0 a1).bind fun t127 => (some (decide (t127 ≥ 0)))) = some r := h
 clear h
 replace H := Option.bind_eq_some_iff.mp H
 obtain ⟨t127, A30, H⟩ := H
 replace H : (some (decide (t127 ≥ 0))) = some r := H
 have A3 := Aside0.mk A30
 clear A30
 obtain rfl := Option.some.inj H
 go_enter Tryz.func36, Tryz.ntmps36
 go_wp2_with (first | ((with_reducible refine gate_callee (f := 65) rfl ?_); refine goesL_ (some 7) rfl rfl Tryz.func65 (by kernel_rfl) rfl #[.slice A0 l0.length c0, .string a1] rfl (by (try simp only [List.map_toArray, List.map_cons, List.map_nil]); first | done | rfl | (simp only [List.length_drop, List.length_take]; rfl)) ?_; (with_reducible refine (slices_Index_string_string.calls k _ _ l0 a1 t127 _ ?side1 ?side2 A3.out).mono ?_); (case side1 => repeat (first | exact HR0.out | (with_reducible refine Kd.C_alloc ?_ _) | (with_reducible refine Kd.C_drewN ?_ _) | (with_reducible refine Kd.C_drew ?_))); (case side2 => exact HC0.out); rintro e w' ⟨rfl, ⟨nd, rfl⟩⟩; refine ⟨_, rfl, ?_⟩))
 go_ret
 exact ⟨by first | rfl | (simp; done) | (simp [*]; done), by repeat (first | exact Drawn0.refl _ | apply Drawn0.step)⟩
def slices_Equal_string_string.l0 : Nat → List ByteArray → List ByteArray → Int → Int → Option (Bool)
 | 0, _, _, _, _ => none
 | k + 1, x0, x1, x12, x13 => if x13 < x12 then (if 0 ≤ x13 then (if x13 < (x0.length : Int) then (if x13 < (x1.length : Int) then (if (rdOf ByteArray.empty x0 x13).toList = (rdOf ByteArray.empty x1 x13).toList then (slices_Equal_string_string.l0 k x0 x1 x12 (wrap64 (x13 + 1))) else (some false)) else (none)) else (none)) else (none)) else (some true)
def slices_Equal_string_string.f (k : Nat) (l0 : List ByteArray) (l1 : List ByteArray) : Option (Bool) := if (l0.length : Int) = (l1.length : Int) then (slices_Equal_string_string.l0 k l0 l1 (l0.length : Int) 0) else (some false)
theorem slices_Equal_string_string.mono_l : ∀ k, (∀ y0 y1 y2 y3, LeO (slices_Equal_string_string.l0 k y0 y1 y2 y3) (slices_Equal_string_string.l0 (k + 1) y0 y1 y2 y3))
 | 0 => fun _ _ _ _ r h => by simp [slices_Equal_string_string.l0] at h
 | k + 1 => by
  have ih0 := slices_Equal_string_string.mono_l k
  · intro y0 y1 y2 y3
    unfold slices_Equal_string_string.l0
    repeat' first
    | (with_reducible exact ih0 _ _ _ _)
    | (with_reducible exact LeO.refl _)
    | (with_reducible exact LeO.none _)
    | (with_reducible refine LeO.ite ?_ ?_)
    | (with_reducible refine LeO.bind ?_ (fun _ => ?_))
    | exact ih0 _ _ _ _
    | exact LeO.none _
    | refine LeO.ite ?_ ?_
    | refine LeO.bind ?_ (fun _ => ?_)
theorem slices_Equal_string_string.mono : ∀ a0 a1 k, LeO (slices_Equal_string_string.f k a0 a1) (slices_Equal_string_string.f (k + 1) a0 a1) := by
 intro a0 a1 k
 have ih0 := slices_Equal_string_string.mono_l k
 unfold slices_Equal_string_string.f
 repeat' first
  | (with_reducible exact ih0 _ _ _ _)
  | (with_reducible exact LeO.refl _)
  | (with_reducible exact LeO.none _)
  | (with_reducible refine LeO.ite ?_ ?_)
  | (with_reducible refine LeO.bind ?_ (fun _ => ?_))
  | exact ih0 _ _ _ _
  | exact LeO.none _
  | refine LeO.ite ?_ ?_
  | refine LeO.bind ?_ (fun _ => ?_)
set_option maxHeartbeats 8000000 in
set_option maxRecDepth 100000 in
theorem slices_Equal_string_string.calls (k : Nat) (A0 : Option Addr) (c0 : Nat) (l0 : List ByteArray) (A1 : Option Addr) (c1 : Nat) (l1 : List ByteArray) (r : Bool) (w : World) (hr0 : Kd.C Kd.string w A0 l0.length l0) (hc0 : l0.length ≤ c0) (hr1 : Kd.C Kd.string w A1 l1.length l1) (hc1 : l1.length ≤ c1) (h : slices_Equal_string_string.f k l0 l1 = some r) :
 Calls Tryz.prog 62 #[.slice A0 l0.length c0, .slice A1 l1.length c1] w fun e w' => e = .returned (.bool r) ∧ Drawn0 w w' := by
 have HR0 := Aside0.mk hr0
 have HC0 := Aside0.mk hc0
 clear hr0 hc0
 have HR1 := Aside0.mk hr1
 have HC1 := Aside0.mk hc1
 clear hr1 hc1
 have H : (if (l0.length : Int) = (l1.length : Int) then (slices_Equal_string_string.l0 k l0 l1 (l0.length : Int) 0) else (some false)) = some r := h
 clear h
 by_cases c3 : (l0.length : Int) = (l1.length : Int)
 · rw [if_pos c3] at H
   have c3b0 : ((l0.length : Int) == (l1.length : Int)) = true := beq_iff_eq.mpr c3
   have c3b1 : ((l0.length : Int) != (l1.length : Int)) = false := bne_eq_false_iff_eq.mpr c3
   have c3b2 : (l0.length == l1.length) = true := by first | simpa using c3 | (simp at c3 ⊢; omega)
   clear c3
   have H' := Aside0.mk H
   clear H
   go_enter Tryz.func62, Tryz.ntmps62
   go_wp2
   repeat (go_quiet (fail); try go_wp2)
   go_loopg [13] k (fun kq v13 w' => ∃ (x13_1 : Int), v13 = .int .i64 x13_1 ∧ Aside0 (slices_Equal_string_string.l0 kq l0 l1 (l0.length : Int) x13_1 = some r) ∧ Aside0 (kq ≤ k) ∧ Drawn0 w w')
   case atStart => exact ⟨(0), (by first | rfl | (simp; done) | (simp [*]; done)), H', ⟨Nat.le_refl _⟩, by repeat (first | exact Drawn0.refl _ | apply Drawn0.step)⟩
   case round =>
    clear H'
    try clear c1
    try clear c3
    try clear c3b0
    try clear c3b1
    try clear c3b2
    obtain ⟨x13_1, rfl, HA, HK1, ⟨m1, rfl⟩⟩ := hrel
    cases gk with
    | zero => exact absurd HA.out (by simp [slices_Equal_string_string.l0])
    | succ k1 =>
     have H := HA.out
     clear HA
     simp only [slices_Equal_string_string.l0] at H
     by_cases c4 : x13_1 < (l0.length : Int)
     · rw [if_pos c4] at H
       have c4b0 : decide (x13_1 < (l0.length : Int)) = true := decide_eq_true c4
       clear c4
       by_cases c5 : 0 ≤ x13_1
       · rw [if_pos c5] at H
         have c5b0 : decide (0 ≤ x13_1) = true := decide_eq_true c5
         clear c5
         by_cases c6 : x13_1 < (l0.length : Int)
         · rw [if_pos c6] at H
           have c6b0 : decide (x13_1 < (l0.length : Int)) = true := decide_eq_true c6
           clear c6
           by_cases c7 : x13_1 < (l1.length : Int)
           · rw [if_pos c7] at H
             have c7b0 : decide (x13_1 < (l1.length : Int)) = true := decide_eq_true c7
             clear c7
             by_cases c8 : (rdOf ByteArray.empty l0 x13_1).toList = (rdOf ByteArray.empty l1 x13_1).toList
             · rw [if_pos c8] at H
               have c8b0 : ((rdOf ByteArray.empty l0 x13_1).toList == (rdOf ByteArray.empty l1 x13_1).toList) = true := beq_iff_eq.mpr c8
               have c8b1 : ((rdOf ByteArray.empty l0 x13_1).toList != (rdOf ByteArray.empty l1 x13_1).toList) = false := bne_eq_false_iff_eq.mpr c8
               clear c8
               have H' := Aside0.mk H
               clear H
               have p510 : 0 ≤ (x13_1 : Int) := of_decide_eq_true (by first | (with_reducible assumption) | assumption)
               have q510 : x13_1 < (l0.length : Int) := of_decide_eq_true (by first | (with_reducible assumption) | assumption)
               obtain ⟨ad510, e510, hx510_0⟩ := Kd.at_string HR0.out x13_1 p510 q510
               cases e510
               replace p510 := eq_true p510
               replace q510 := eq_true q510
               have p511 : 0 ≤ (x13_1 : Int) := of_decide_eq_true (by first | (with_reducible assumption) | assumption)
               have q511 : x13_1 < (l1.length : Int) := of_decide_eq_true (by first | (with_reducible assumption) | assumption)
               obtain ⟨ad511, e511, hx511_0⟩ := Kd.at_string HR1.out x13_1 p511 q511
               cases e511
               replace p511 := eq_true p511
               replace q511 := eq_true q511
               go_wp2
               repeat (go_quiet (fail); try go_wp2)
               go_roundg k1
               case measure => have := HK1.out; omega
               case rel => exact ⟨(wrap64 (x13_1 + 1)), (by first | rfl | (simp; done) | (simp [*]; done)), H', ⟨by have := HK1.out; omega⟩, by repeat (first | exact Drawn0.refl _ | apply Drawn0.step)⟩
             · rw [if_neg c8] at H
               have c8b0 : ((rdOf ByteArray.empty l0 x13_1).toList == (rdOf ByteArray.empty l1 x13_1).toList) = false := beq_eq_false_iff_ne.mpr c8
               have c8b1 : ((rdOf ByteArray.empty l0 x13_1).toList != (rdOf ByteArray.empty l1 x13_1).toList) = true := bne_iff_ne.mpr c8
               obtain rfl := Option.some.inj H
               have p510 : 0 ≤ (x13_1 : Int) := of_decide_eq_true (by first | (with_reducible assumption) | assumption)
               have q510 : x13_1 < (l0.length : Int) := of_decide_eq_true (by first | (with_reducible assumption) | assumption)
               obtain ⟨ad510, e510, hx510_0⟩ := Kd.at_string HR0.out x13_1 p510 q510
               cases e510
               replace p510 := eq_true p510
               replace q510 := eq_true q510
               have p511 : 0 ≤ (x13_1 : Int) := of_decide_eq_true (by first | (with_reducible assumption) | assumption)
               have q511 : x13_1 < (l1.length : Int) := of_decide_eq_true (by first | (with_reducible assumption) | assumption)
               obtain ⟨ad511, e511, hx511_0⟩ := Kd.at_string HR1.out x13_1 p511 q511
               cases e511
               replace p511 := eq_true p511
               replace q511 := eq_true q511
               go_wp2
               repeat (go_quiet (fail); try go_wp2)
               go_ret
               exact ⟨by first | rfl | (simp; done) | (simp [*]; done), by repeat (first | exact Drawn0.refl _ | apply Drawn0.step)⟩
           · rw [if_neg c7] at H
             exact absurd H (by simp)
         · rw [if_neg c6] at H
           exact absurd H (by simp)
       · rw [if_neg c5] at H
         exact absurd H (by simp)
     · rw [if_neg c4] at H
       have c4b0 : decide (x13_1 < (l0.length : Int)) = false := decide_eq_false c4
       clear c4
       obtain rfl := Option.some.inj H
       go_wp2
       repeat (go_quiet (fail); try go_wp2)
       go_ret
       exact ⟨by first | rfl | (simp; done) | (simp [*]; done), by repeat (first | exact Drawn0.refl _ | apply Drawn0.step)⟩
 · rw [if_neg c3] at H
   have c3b0 : ((l0.length : Int) == (l1.length : Int)) = false := beq_eq_false_iff_ne.mpr c3
   have c3b1 : ((l0.length : Int) != (l1.length : Int)) = true := bne_iff_ne.mpr c3
   have c3b2 : (l0.length == l1.length) = false := by first | simpa using c3 | (simp at c3 ⊢; omega)
   obtain rfl := Option.some.inj H
   go_enter Tryz.func62, Tryz.ntmps62
   go_wp2
   repeat (go_quiet (fail); try go_wp2)
   go_ret
   exact ⟨by first | rfl | (simp; done) | (simp [*]; done), by repeat (first | exact Drawn0.refl _ | apply Drawn0.step)⟩
end Go.Proofs.YthdfmbmbjpmlaaaGreatDoor.Rn
end
section
set_option linter.unusedVariables false
set_option linter.unusedSimpArgs false
namespace Go.Proofs.YthdfmbmbjpmlaaaGreatDoor.Rn
open Go Go.RowKit Go.Proofs.YthdfmbmbjpmlaaaGreatDoorW.PrintWords Go.Proofs.YthdfmbmbjpmlaaaGreatDoorW.PrintLast Go.Proofs.YthdfmbmbjpmlaaaGreatDoorW.PrintMore
section
variable {bc : Nat} {AT : Option Addr} {T : List Tok} {ct : Nat} {AR : Option Addr} {R : List Rul} {cr : Nat} {wh : Int} {W : World}
theorem must_yes (code : Int) (hc : CourtAt bc AT T ct AR R cr wh W) :
 Calls Tryz.prog 22 #[.pointer (some ⟨bc, 0, none⟩), .bool true, .int .i64 code] W fun e w' => e = .returned (.tuple #[]) ∧ Below W.heap.size W w' :=
 (must_any bc AT T ct AR R cr wh true code W hc).mono fun e w' h => ⟨h.2, h.1⟩
theorem must_no (code : Int) (hc : CourtAt bc AT T ct AR R cr wh W) :
 Calls Tryz.prog 22 #[.pointer (some ⟨bc, 0, none⟩), .bool false, .int .i64 code] W fun e w' => e = .panicked [{ v := faultV code wh, recovered := false }] ∧ Below W.heap.size W w' :=
 (must_any bc AT T ct AR R cr wh false code W hc).mono fun e w' h => ⟨h.2, h.1⟩
theorem CourtAt.later {W' : World} (h : CourtAt bc AT T ct AR R cr wh W) (hb : Below W.heap.size W W') : CourtAt bc AT T ct AR R cr wh W' := blk_below h hb
theorem CourtPost.ok {W' : World} (h : Below W.heap.size W W') : CourtPost wh none W (.returned (.tuple #[])) W' := ⟨h, rfl⟩
theorem CourtPost.bad {W' : World} {c : Int} (h : Below W.heap.size W W') : CourtPost wh (some c) W (.panicked [{ v := faultV c wh, recovered := false }]) W' := ⟨h, rfl⟩
end
def classS (n : Int) : Option Int := if 0 ≤ n ∧ n ≤ 31 then none else some 6
set_option maxHeartbeats 1000000 in
theorem class_any (bc : Nat) (AT : Option Addr) (T : List Tok) (ct : Nat) (AR : Option Addr) (R : List Rul) (cr : Nat) (wh : Int) (n : Int) (W : World) (hc : CourtAt bc AT T ct AR R cr wh W) :
 Calls Tryz.prog 48 #[.pointer (some ⟨bc, 0, none⟩), .int .i64 n] W (CourtPost wh (classS n) W) := by
 have HC := Aside0.mk hc
 clear hc
 by_cases c1 : 0 ≤ n
 · by_cases c2 : n ≤ 31
   · have HR : Aside0 (classS n = none) := ⟨if_pos ⟨c1, c2⟩⟩
     rw [HR.out]
     go_enter Tryz.func48, Tryz.ntmps48
     go_wp2_with fail
     refine (must_yes 6 HC.out).mono ?_
     rintro e w2 ⟨rfl, hb⟩
     have HB := Aside0.mk hb
     clear hb
     go_wp2
     first | go_end0 | refine bodyPost_ret (results_none rfl _ _ _) rfl ?_
     exact CourtPost.ok HB.out
   · have HR : Aside0 (classS n = some 6) := ⟨if_neg (fun h => c2 h.2)⟩
     have d2 : decide (n ≤ 31) = false := decide_eq_false c2
     rw [HR.out]
     go_enter Tryz.func48, Tryz.ntmps48
     go_wp2_with fail
     refine (must_no 6 HC.out).mono ?_
     rintro e w2 ⟨rfl, hb⟩
     have HB := Aside0.mk hb
     clear hb
     go_wp2
     exact ⟨rfl, CourtPost.bad HB.out⟩
 · have HR : Aside0 (classS n = some 6) := ⟨if_neg (fun h => c1 h.1)⟩
   have d1 : decide (0 ≤ n) = false := decide_eq_false c1
   rw [HR.out]
   go_enter Tryz.func48, Tryz.ntmps48
   go_wp2_with fail
   refine (must_no 6 HC.out).mono ?_
   rintro e w2 ⟨rfl, hb⟩
   have HB := Aside0.mk hb
   clear hb
   go_wp2
   exact ⟨rfl, CourtPost.bad HB.out⟩
theorem rdOf_at (l : List ByteArray) (i : Nat) (hi : i < l.length) : rdOf ByteArray.empty l (i : Int) = l[i] := by
 unfold rdOf
 rw [Int.toNat_natCast, List.getD_eq_getElem?_getD, List.getElem?_eq_getElem hi]
 rfl
def hasT (l : List ByteArray) (s : ByteArray) : Bool := l.any (fun t => decide (s = t))
theorem index_l (l : List ByteArray) (s : ByteArray) (hl : l.length ≤ 9223372036854775807) (d : Nat) : ∀ i : Nat, i ≤ l.length → l.length - i = d → Ev (fun k => (slices_Index_string_string.l0 k l s (l.length : Int) (i : Int)).map (fun v => decide (v ≥ 0))) (hasT (l.drop i) s) := by
 induction d with
 | zero =>
  intro i h1 h2
  refine Ev.step (f := fun _ => some false) (fun k => ?_) ?_
  · simp only [slices_Index_string_string.l0]
    rw [if_neg (by omega)]
    rfl
  · rw [List.drop_of_length_le (by omega)]
    exact Ev.now _
 | succ d ih =>
  intro i h1 h2
  have hi : i < l.length := by omega
  have hrd := rdOf_at l i hi
  have hd := List.drop_eq_getElem_cons hi
  by_cases c : s = l[i]
  · refine Ev.step (f := fun _ => some true) (fun k => ?_) ?_
    · simp only [slices_Index_string_string.l0]
      rw [if_pos (by omega), if_pos (by omega), if_pos (by omega), hrd, if_pos (congrArg ByteArray.toList c)]
      rw [Option.map_some, decide_eq_true (show (i : Int) ≥ 0 by omega)]
    · have e3 : hasT (l.drop i) s = true := by
       rw [hd]
       simp [hasT, ← c]
      rw [e3]
      exact Ev.now _
  · have hn := ih (i + 1) (by omega) (by omega)
    have e2 : wrap64 ((i : Int) + 1) = ((i + 1 : Nat) : Int) := by
     clear hn hrd hd
     unfold wrap64
     omega
    refine Ev.step (f := fun k => (slices_Index_string_string.l0 k l s (l.length : Int) ((i + 1 : Nat) : Int)).map (fun v => decide (v ≥ 0))) (fun k => ?_) ?_
    · simp only [slices_Index_string_string.l0]
      rw [if_pos (by omega), if_pos (by omega), if_pos (by omega), hrd, if_neg (fun e => c (text_ext e)), e2]
    · have e3 : hasT (l.drop i) s = hasT (l.drop (i + 1)) s := by
       rw [hd]
       show (decide (s = l[i]) || hasT (l.drop (i + 1)) s) = _
       rw [decide_eq_false c, Bool.false_or]
      rw [e3]
      exact hn
theorem contains_s (l : List ByteArray) (s : ByteArray) (hl : l.length ≤ 9223372036854775807) : ∃ k, slices_Contains_string_string.f k l s = some (hasT l s) := by
 obtain ⟨k, hk⟩ := (index_l l s hl l.length 0 (by omega) (by omega)).rounds
 refine ⟨k, ?_⟩
 unfold slices_Contains_string_string.f slices_Index_string_string.f
 rw [List.drop_zero] at hk
 obtain ⟨v, hv, he⟩ := Option.map_eq_some_iff.1 hk
 rw [show ((0 : Nat) : Int) = 0 from rfl] at hv
 rw [hv, Option.bind_some, he]
theorem C_take {α : Type} {k : Kd α} {w : World} {A : Option Addr} {xs : List α} (h : k.C w A xs.length xs) (n : Nat) (hn : n ≤ xs.length) : k.C w A n (xs.take n) :=
 ⟨by rw [List.length_take]; omega, by have := h.2.1; omega, fun h0 => by
  obtain ⟨ad, e, hc⟩ := h.2.2 (by omega)
  refine ⟨ad, e, fun j p hj => hc j p ?_⟩
  obtain ⟨hlt, hv⟩ := List.getElem?_eq_some_iff.1 hj
  rw [List.length_take] at hlt
  rw [List.getElem_take] at hv
  exact List.getElem?_eq_some_iff.2 ⟨by omega, hv⟩⟩
theorem contains_any (A : Option Addr) (l : List ByteArray) (n c : Nat) (s : ByteArray) (w : World) (hC : Kd.string.C w A n l) (hc : n ≤ c) :
 Calls Tryz.prog 36 #[.slice A n c, .string s] w fun e w' => e = .returned (.bool (hasT l s)) ∧ Below w.heap.size w w' := by
 obtain rfl := hC.1
 obtain ⟨k, hk⟩ := contains_s l s hC.2.1
 exact (slices_Contains_string_string.calls k A c l s _ w hC hc hk).mono fun e w' h => ⟨h.1, h.2.below⟩
def kindAt (T : List Tok) (i : Int) : Int := (rd_T40 T i).f1
def namesS (T : List Tok) (kind : Int) : List ByteArray → List ByteArray → Option Int
 | _, [] => none
 | p, s :: r => if 0 ≤ findS T s 0 ∧ hasT p s = false then (if kindAt T (findS T s 0) = kind then namesS T kind (p ++ [s]) r else some 5) else some 4
theorem findS_lt (T : List Tok) (s : ByteArray) : ∀ (i : Nat), findS T s i = -1 ∨ ((i : Int) ≤ findS T s i ∧ findS T s i < i + T.length) := by
 induction T with
 | nil => exact fun i => .inl rfl
 | cons t T ih =>
  intro i
  show (if t.f0 = s then (i : Int) else findS T s (i + 1)) = -1 ∨ _ ≤ (if t.f0 = s then (i : Int) else findS T s (i + 1)) ∧ (if t.f0 = s then (i : Int) else findS T s (i + 1)) < _
  by_cases c : t.f0 = s
  · rw [if_pos c, List.length_cons]
    exact .inr ⟨by omega, by omega⟩
  · rw [if_neg c, List.length_cons]
    rcases ih (i + 1) with h | h
    · exact .inl h
    · exact .inr ⟨by omega, by omega⟩
set_option maxHeartbeats 2000000 in
set_option maxRecDepth 100000 in
theorem names_any (bc : Nat) (AT : Option Addr) (T : List Tok) (ct : Nat) (AR : Option Addr) (R : List Rul) (cr : Nat) (wh : Int) (Al : Option Addr) (l : List ByteArray) (cl : Nat) (kind : Int) (W : World) (hc : CourtAt bc AT T ct AR R cr wh W) (hT : kTok.C W AT T.length T) (hl : Kd.string.C W Al l.length l) (hcl : l.length ≤ cl) :
 Calls Tryz.prog 51 #[.pointer (some ⟨bc, 0, none⟩), .slice Al l.length cl, .int .i64 kind] W (CourtPost wh (namesS T kind [] l) W) := by
 have hlen : l.length ≤ 9223372036854775807 := hl.2.1
 have HC := Aside0.mk hc
 have HT := Aside0.mk hT
 have HL := Aside0.mk hl
 obtain ⟨res, hres⟩ : ∃ res, namesS T kind [] l = res := ⟨_, rfl⟩
 have HR := Aside0.mk hres
 rw [hres]
 clear hc hT hl hres
 go_enter Tryz.func51, Tryz.ntmps51
 go_wp2
 go_loopw [11] (fun i w' => ∃ k : Nat, i = .int .i64 k ∧ k ≤ l.length ∧ Aside0 (namesS T kind (l.take k) (l.drop k) = res) ∧ Aside0 (Below W.heap.size W w')) (fun i _ => l.length - (intOf i).toNat)
 case atStart => exact ⟨0, rfl, Nat.zero_le _, HR, ⟨Below.refl _ _⟩⟩
 case round =>
  obtain ⟨k, rfl, hkl, HI, HB⟩ := hrel
  by_cases hlt : k < l.length
  · obtain ⟨g, o, rfl, _, hcell⟩ := row_cells HL.out (by omega) (by decide)
    obtain ⟨s, hs⟩ : ∃ s, l[k]? = some s := ⟨_, List.getElem?_eq_getElem hlt⟩
    obtain ⟨cs, hcs, hK, hcc⟩ := hcell k s hs
    obtain rfl : cs = [.string s] := hK
    have y0 := cell_after HB.out (hcc 0 (.string s) rfl)
    rw [Nat.add_zero, show (Kd.string).sz = 1 from rfl, Nat.mul_one] at y0
    have b0 := cell_after HB.out (show W.cell? ⟨bc, 0, none⟩ = some (.slice AT T.length ct) from (blk_cell HC.out 0).trans rfl)
    have b1 := cell_after HB.out (show W.cell? ⟨bc, 1, none⟩ = some (.slice AR R.length cr) from (blk_cell HC.out 1).trans rfl)
    have HS := Aside0.mk hs
    have hdk : l.drop k = s :: l.drop (k + 1) := by
     rw [List.drop_eq_getElem_cons hlt]
     rw [List.getElem?_eq_getElem hlt] at hs
     rw [Option.some.inj hs]
    have htk : l.take (k + 1) = l.take k ++ [s] := by rw [List.take_add_one, hs]; rfl
    have hI2 := HI.out
    rw [hdk, namesS] at hI2
    have HI2 := Aside0.mk hI2
    have HTK := Aside0.mk htk
    have hf := findS_lt T s 0
    clear hcell hcc hs hdk htk hI2 HI hcs
    go_wp2_with fail
    refine (find_any T AT AR ct cr R.length s _ (Kd.C_below HT.out HB.out)).mono ?_
    rintro e w2 ⟨rfl, hb⟩
    have HB2 := Aside0.mk (join_below HB.out hb)
    have b2 := cell_after hb b0
    have HC2 := Aside0.mk (CourtAt.later HC.out HB2.out)
    clear b0 b1 y0 hb
    generalize findS T s 0 = f at *
    by_cases c1 : 0 ≤ f
    · have hfl : f < T.length := by omega
      obtain ⟨fn, rfl⟩ : ∃ n : Nat, f = n := ⟨f.toNat, by omega⟩
      have hTl : 0 < T.length := by omega
      have hfn : fn < T.length := by omega
      obtain ⟨g2, o2, rfl, _, hcellT⟩ := row_cells HT.out hTl (by decide)
      obtain ⟨t, ht⟩ : ∃ t, T[fn]? = some t := ⟨_, List.getElem?_eq_getElem hfn⟩
      obtain ⟨ct2, _, hK2, hcc2⟩ := hcellT fn t ht
      obtain ⟨A4, c4, A5, c5, rfl, _, _, _, _⟩ := k40_open hK2
      have yk := hcc2 1 (.int .i64 t.f1) rfl
      rw [show kTok.sz = 6 from rfl] at yk
      have HYK := Aside0.mk yk
      have hkd : kindAt T (fn : Int) = t.f1 := by
       unfold kindAt rd_T40
       rw [Int.toNat_natCast, List.getD_eq_getElem?_getD, ht]
       rfl
      have HKD := Aside0.mk hkd
      have hfl2 : (fn : Int) < (T.length : Int) := by omega
      clear hf hcellT ht hK2 hcc2 yk hkd hTl
      go_wp2_with fail
      refine (contains_any _ (l.take k) k cl s _ (C_take (Kd.C_below HL.out HB2.out) k hkl) (by omega)).mono ?_
      rintro e w3 ⟨rfl, hb⟩
      have HB3 := Aside0.mk (join_below HB2.out hb)
      have b3 := cell_after hb b2
      have HC3 := Aside0.mk (CourtAt.later HC.out HB3.out)
      clear b2 hb
      obtain ⟨bh, hbh⟩ : ∃ b, hasT (l.take k) s = b := ⟨_, rfl⟩
      have HBH := Aside0.mk hbh
      rw [hbh]
      clear hbh
      cases bh
      · go_wp2_with fail
        refine (must_yes 4 HC3.out).mono ?_
        rintro e w4 ⟨rfl, hb⟩
        have HB4 := Aside0.mk (join_below HB3.out hb)
        have b4 := cell_after hb b3
        have HC4 := Aside0.mk (CourtAt.later HC.out HB4.out)
        have yk := cell_after HB4.out HYK.out
        clear b3 hb
        by_cases c3 : t.f1 = kind
        · have d3 : (t.f1 == kind) = true := beq_iff_eq.2 c3
          have HN : Aside0 (namesS T kind (l.take (k + 1)) (l.drop (k + 1)) = res) := ⟨by rw [HTK.out, ← HI2.out, if_pos ⟨c1, HBH.out⟩, HKD.out, if_pos c3]⟩
          clear c3
          go_wp2_with fail
          refine (must_yes 5 HC4.out).mono ?_
          rintro e w5 ⟨rfl, hb⟩
          have HB5 := Aside0.mk (join_below HB4.out hb)
          clear hb b4 yk
          go_wp2
          go_roundw
          case rel => exact ⟨k + 1, by go_num, by omega, HN, HB5⟩
          case measure => simp [intOf]; omega
        · have d3 : (t.f1 == kind) = false := beq_eq_false_iff_ne.2 c3
          have HE : Aside0 (res = some 5) := ⟨by rw [← HI2.out, if_pos ⟨c1, HBH.out⟩, HKD.out, if_neg c3]⟩
          clear c3
          go_wp2_with fail
          refine (must_no 5 HC4.out).mono ?_
          rintro e w5 ⟨rfl, hb⟩
          have HB5 := Aside0.mk (join_below HB4.out hb)
          clear hb b4 yk
          go_wp2
          exact ⟨rfl, by rw [HE.out]; exact CourtPost.bad HB5.out⟩
      · have HE : Aside0 (res = some 4) := ⟨by rw [← HI2.out, if_neg (fun h => by rw [HBH.out] at h; cases h.2)]⟩
        go_wp2_with fail
        refine (must_no 4 HC3.out).mono ?_
        rintro e w4 ⟨rfl, hb⟩
        have HB4 := Aside0.mk (join_below HB3.out hb)
        clear hb b3
        go_wp2
        exact ⟨rfl, by rw [HE.out]; exact CourtPost.bad HB4.out⟩
    · have d1 : decide (0 ≤ f) = false := decide_eq_false c1
      have HE : Aside0 (res = some 4) := ⟨by rw [← HI2.out, if_neg (fun h => c1 h.1)]⟩
      clear c1 hf
      go_wp2_with fail
      refine (must_no 4 HC2.out).mono ?_
      rintro e w3 ⟨rfl, hb⟩
      have HB3 := Aside0.mk (join_below HB2.out hb)
      clear hb b2
      go_wp2
      exact ⟨rfl, by rw [HE.out]; exact CourtPost.bad HB3.out⟩
  · have e : k = l.length := by omega
    have HI2 : Aside0 (res = none) := ⟨by rw [← HI.out, e, List.drop_length]; rfl⟩
    clear e
    go_wp2
    first | go_end0 | refine bodyPost_ret (results_none rfl _ _ _) rfl ?_
    rw [HI2.out]
    exact CourtPost.ok HB.out
end Go.Proofs.YthdfmbmbjpmlaaaGreatDoor.Rn
end
section
namespace Go.Proofs.YthdfmbmbjpmlaaaGreatDoor.Rn
open Go.RowKit Go.Proofs.YthdfmbmbjpmlaaaGreatDoorW.PrintWords Go.Proofs.YthdfmbmbjpmlaaaGreatDoorW.PrintLast Go.Proofs.YthdfmbmbjpmlaaaGreatDoorW.PrintMore
attribute [local go_sem] max2_int min2_int max_two min_two max_three min_three max_four min_four   -- for this text's walks alone
set_option linter.unusedVariables false
set_option linter.unusedSimpArgs false
mutual
def gram_parts.j0 : Nat → Int → Bool → Option (Int)
 | 0, _, _ => none
 | k + 1, x3, x4 => if x4 = true then (some 0) else (if x3 = 3 then (gram_parts.j1 k x3 (x3 == 3)) else (gram_parts.j1 k x3 (x3 == 7)))
def gram_parts.j1 : Nat → Int → Bool → Option (Int)
 | 0, _, _ => none
 | k + 1, x3, x8 => if x8 = true then (some 1) else (if x3 = 5 then (some 2) else (if x3 = 6 then (some 2) else (some (-1))))
end
def gram_parts.f (k : Nat) (a0 : Int) : Option (Int) := if a0 = 1 then (gram_parts.j0 k a0 (a0 == 1)) else (if a0 = 2 then (gram_parts.j0 k a0 (a0 == 2)) else (gram_parts.j0 k a0 (a0 == 4)))
theorem gram_parts.mono_l : ∀ k, (∀ y0 y1, LeO (gram_parts.j0 k y0 y1) (gram_parts.j0 (k + 1) y0 y1)) ∧ (∀ y0 y1, LeO (gram_parts.j1 k y0 y1) (gram_parts.j1 (k + 1) y0 y1))
 | 0 => ⟨fun _ _ r h => by simp [gram_parts.j0] at h, fun _ _ r h => by simp [gram_parts.j1] at h⟩
 | k + 1 => by
  obtain ⟨ih0, ih1⟩ := gram_parts.mono_l k
  refine ⟨?_, ?_⟩
  · intro y0 y1
    unfold gram_parts.j0
    repeat' first
    | (with_reducible exact ih0 _ _)
    | (with_reducible exact ih1 _ _)
    | (with_reducible exact LeO.refl _)
    | (with_reducible exact LeO.none _)
    | (with_reducible refine LeO.ite ?_ ?_)
    | (with_reducible refine LeO.bind ?_ (fun _ => ?_))
    | exact ih0 _ _
    | exact ih1 _ _
    | exact LeO.none _
    | refine LeO.ite ?_ ?_
    | refine LeO.bind ?_ (fun _ => ?_)
  · intro y0 y1
    unfold gram_parts.j1
    repeat' first
    | (with_reducible exact ih0 _ _)
    | (with_reducible exact ih1 _ _)
    | (with_reducible exact LeO.refl _)
    | (with_reducible exact LeO.none _)
    | (with_reducible refine LeO.ite ?_ ?_)
    | (with_reducible refine LeO.bind ?_ (fun _ => ?_))
    | exact ih0 _ _
    | exact ih1 _ _
    | exact LeO.none _
    | refine LeO.ite ?_ ?_
    | refine LeO.bind ?_ (fun _ => ?_)
theorem gram_parts.mono : ∀ a0 k, LeO (gram_parts.f k a0) (gram_parts.f (k + 1) a0) := by
 intro a0 k
 obtain ⟨ih0, ih1⟩ := gram_parts.mono_l k
 unfold gram_parts.f
 repeat' first
  | (with_reducible exact ih0 _ _)
  | (with_reducible exact ih1 _ _)
  | (with_reducible exact LeO.refl _)
  | (with_reducible exact LeO.none _)
  | (with_reducible refine LeO.ite ?_ ?_)
  | (with_reducible refine LeO.bind ?_ (fun _ => ?_))
  | exact ih0 _ _
  | exact ih1 _ _
  | exact LeO.none _
  | refine LeO.ite ?_ ?_
  | refine LeO.bind ?_ (fun _ => ?_)
set_option maxHeartbeats 8000000 in
set_option maxRecDepth 100000 in
theorem gram_parts.calls (k : Nat) (a0 : Int) (r : Int) (w : World) (h : gram_parts.f k a0 = some r) :
 Calls Tryz.prog 87 #[.int .i64 a0] w fun e w' => e = .returned (.int .i64 r) ∧ Drawn0 w w' := by
 have H : (if a0 = 1 then (gram_parts.j0 k a0 (a0 == 1)) else (if a0 = 2 then (gram_parts.j0 k a0 (a0 == 2)) else (gram_parts.j0 k a0 (a0 == 4)))) = some r := h
 clear h
 have HC2 := Aside0.mk H
 clear H
 go_enter Tryz.func87, Tryz.ntmps87
 go_upto_if 4 with (fail)
 go_cut [4] (fun v4 wc => ∃ (kq : Nat) (x4_1 : Bool), v4 = .bool x4_1 ∧ Aside0 (gram_parts.j0 kq a0 x4_1 = some r) ∧ Aside0 (kq ≤ k) ∧ Drawn0 w wc)
 case first =>
  have H := HC2.out
  clear HC2
  by_cases c3 : a0 = 1
  · rw [if_pos c3] at H
    have c3b0 : (a0 == 1) = true := beq_iff_eq.mpr c3
    have c3b1 : (a0 != 1) = false := bne_eq_false_iff_eq.mpr c3
    clear c3
    (first | rw [c3b0] | (simp only [i64_w, i32_w]; rw [c3b0]) | skip)
    have H' := Aside0.mk H
    clear H
    go_wp2
    go_meet
    case rel => exact ⟨_, ((a0 == 1)), (by first | rfl | (simp; done) | (simp [*]; done)), H', ⟨by first | omega | exact Nat.le_refl _⟩, by repeat (first | exact Drawn0.refl _ | apply Drawn0.step)⟩
  · rw [if_neg c3] at H
    have c3b0 : (a0 == 1) = false := beq_eq_false_iff_ne.mpr c3
    have c3b1 : (a0 != 1) = true := bne_iff_ne.mpr c3
    (first | rw [c3b0] | (simp only [i64_w, i32_w]; rw [c3b0]) | skip)
    by_cases c4 : a0 = 2
    · rw [if_pos c4] at H
      have c4b0 : (a0 == 2) = true := beq_iff_eq.mpr c4
      have c4b1 : (a0 != 2) = false := bne_eq_false_iff_eq.mpr c4
      clear c4
      have H' := Aside0.mk H
      clear H
      go_wp2
      go_meet
      case rel => exact ⟨_, ((a0 == 2)), (by first | rfl | (simp; done) | (simp [*]; done)), H', ⟨by first | omega | exact Nat.le_refl _⟩, by repeat (first | exact Drawn0.refl _ | apply Drawn0.step)⟩
    · rw [if_neg c4] at H
      have c4b0 : (a0 == 2) = false := beq_eq_false_iff_ne.mpr c4
      have c4b1 : (a0 != 2) = true := bne_iff_ne.mpr c4
      have H' := Aside0.mk H
      clear H
      go_wp2
      go_meet
      case rel => exact ⟨_, ((a0 == 4)), (by first | rfl | (simp; done) | (simp [*]; done)), H', ⟨by first | omega | exact Nat.le_refl _⟩, by repeat (first | exact Drawn0.refl _ | apply Drawn0.step)⟩
 case rest =>
  clear HC2
  obtain ⟨kq, x4_1, rfl, HA, HJ1, ⟨mc1, rfl⟩⟩ := hcut
  cases kq with
  | zero => exact absurd HA.out (by simp [gram_parts.j0])
  | succ kj1 =>
   have H := HA.out
   clear HA
   simp only [gram_parts.j0] at H
   by_cases c5 : x4_1 = true
   · subst c5
     have H1 : (some 0) = some r := by rw [if_pos rfl] at H; exact H
     clear H
     have H := H1
     clear H1
     obtain rfl := Option.some.inj H
     go_wp2
     go_ret
     exact ⟨by first | rfl | (simp; done) | (simp [*]; done), by repeat (first | exact Drawn0.refl _ | apply Drawn0.step)⟩
   · replace c5 := Bool.eq_false_iff.mpr c5
     subst c5
     have H1 : (if a0 = 3 then (gram_parts.j1 kj1 a0 (a0 == 3)) else (gram_parts.j1 kj1 a0 (a0 == 7))) = some r := by rw [if_neg (show ¬ (false = true) by decide)] at H; exact H
     clear H
     have H := H1
     clear H1
     have HC6 := Aside0.mk H
     clear H
     go_upto_if 8 with (fail)
     go_cut [8] (fun v8 wc => ∃ (kq : Nat) (x8_5 : Bool), v8 = .bool x8_5 ∧ Aside0 (gram_parts.j1 kq a0 x8_5 = some r) ∧ Aside0 (kq ≤ kj1) ∧ Drawn0 w wc)
     case first =>
      have H := HC6.out
      clear HC6
      by_cases c7 : a0 = 3
      · rw [if_pos c7] at H
        have c7b0 : (a0 == 3) = true := beq_iff_eq.mpr c7
        have c7b1 : (a0 != 3) = false := bne_eq_false_iff_eq.mpr c7
        clear c7
        (first | rw [c7b0] | (simp only [i64_w, i32_w]; rw [c7b0]) | skip)
        have H' := Aside0.mk H
        clear H
        go_wp2
        go_meet
        case rel => exact ⟨_, ((a0 == 3)), (by first | rfl | (simp; done) | (simp [*]; done)), H', ⟨by have := HJ1.out; first | omega | exact Nat.le_refl _⟩, by repeat (first | exact Drawn0.refl _ | apply Drawn0.step)⟩
      · rw [if_neg c7] at H
        have c7b0 : (a0 == 3) = false := beq_eq_false_iff_ne.mpr c7
        have c7b1 : (a0 != 3) = true := bne_iff_ne.mpr c7
        (first | rw [c7b0] | (simp only [i64_w, i32_w]; rw [c7b0]) | skip)
        have H' := Aside0.mk H
        clear H
        go_wp2
        go_meet
        case rel => exact ⟨_, ((a0 == 7)), (by first | rfl | (simp; done) | (simp [*]; done)), H', ⟨by have := HJ1.out; first | omega | exact Nat.le_refl _⟩, by repeat (first | exact Drawn0.refl _ | apply Drawn0.step)⟩
     case rest =>
      clear HC6
      try clear c5
      obtain ⟨kq, x8_5, rfl, HA, HJ5, ⟨mc5, rfl⟩⟩ := hcut
      cases kq with
      | zero => exact absurd HA.out (by simp [gram_parts.j1])
      | succ kj5 =>
       have H := HA.out
       clear HA
       simp only [gram_parts.j1] at H
       by_cases c8 : x8_5 = true
       · subst c8
         have H1 : (some 1) = some r := by rw [if_pos rfl] at H; exact H
         clear H
         have H := H1
         clear H1
         obtain rfl := Option.some.inj H
         go_wp2
         go_ret
         exact ⟨by first | rfl | (simp; done) | (simp [*]; done), by repeat (first | exact Drawn0.refl _ | apply Drawn0.step)⟩
       · replace c8 := Bool.eq_false_iff.mpr c8
         subst c8
         have H1 : (if a0 = 5 then (some 2) else (if a0 = 6 then (some 2) else (some (-1)))) = some r := by rw [if_neg (show ¬ (false = true) by decide)] at H; exact H
         clear H
         have H := H1
         clear H1
         by_cases c9 : a0 = 5
         · rw [if_pos c9] at H
           have c9b0 : (a0 == 5) = true := beq_iff_eq.mpr c9
           have c9b1 : (a0 != 5) = false := bne_eq_false_iff_eq.mpr c9
           clear c9
           obtain rfl := Option.some.inj H
           go_wp2
           go_ret
           exact ⟨by first | rfl | (simp; done) | (simp [*]; done), by repeat (first | exact Drawn0.refl _ | apply Drawn0.step)⟩
         · rw [if_neg c9] at H
           have c9b0 : (a0 == 5) = false := beq_eq_false_iff_ne.mpr c9
           have c9b1 : (a0 != 5) = true := bne_iff_ne.mpr c9
           by_cases c10 : a0 = 6
           · rw [if_pos c10] at H
             have c10b0 : (a0 == 6) = true := beq_iff_eq.mpr c10
             have c10b1 : (a0 != 6) = false := bne_eq_false_iff_eq.mpr c10
             clear c10
             obtain rfl := Option.some.inj H
             go_wp2
             go_ret
             exact ⟨by first | rfl | (simp; done) | (simp [*]; done), by repeat (first | exact Drawn0.refl _ | apply Drawn0.step)⟩
           · rw [if_neg c10] at H
             have c10b0 : (a0 == 6) = false := beq_eq_false_iff_ne.mpr c10
             have c10b1 : (a0 != 6) = true := bne_iff_ne.mpr c10
             obtain rfl := Option.some.inj H
             go_wp2
             go_ret
             exact ⟨by first | rfl | (simp; done) | (simp [*]; done), by repeat (first | exact Drawn0.refl _ | apply Drawn0.step)⟩
end Go.Proofs.YthdfmbmbjpmlaaaGreatDoor.Rn
end
section
set_option linter.unusedVariables false
set_option linter.unusedSimpArgs false
namespace Go.Proofs.YthdfmbmbjpmlaaaGreatDoor.Rn
open Go Go.RowKit Go.Proofs.YthdfmbmbjpmlaaaGreatDoorW.PrintWords Go.Proofs.YthdfmbmbjpmlaaaGreatDoorW.PrintLast Go.Proofs.YthdfmbmbjpmlaaaGreatDoorW.PrintMore
def partsP (a : Int) : Int := if a = 1 ∨ a = 2 ∨ a = 4 then 0 else if a = 3 ∨ a = 7 then 1 else if a = 5 ∨ a = 6 then 2 else -1
theorem partsP_f (a : Int) : gram_parts.f 5 a = some (partsP a) := by
 unfold gram_parts.f partsP
 by_cases h1 : a = 1
 · subst h1; rfl
 by_cases h2 : a = 2
 · subst h2; rfl
 by_cases h3 : a = 3
 · subst h3; rfl
 by_cases h4 : a = 4
 · subst h4; rfl
 by_cases h5 : a = 5
 · subst h5; rfl
 by_cases h6 : a = 6
 · subst h6; rfl
 by_cases h7 : a = 7
 · subst h7; rfl
 simp [h1, h2, h3, h4, h5, h6, h7, gram_parts.j0, gram_parts.j1]
def shapedS (x : Pt) : Bool := ((x.f3.length : Int) == partsP x.f0) && ((decide (0 < (x.f1.length : Int))) == (x.f0 == 3 || x.f0 == 2)) && ((decide (0 < (x.f2.length : Int))) == (x.f0 == 3))
set_option maxHeartbeats 4000000 in
set_option maxRecDepth 100000 in
theorem shaped_any (x : Pt) (w0 W : World) (cs : List Value) (hB : Below w0.heap.size w0 W) (hK : kPt.K w0 x cs) :
 Calls Tryz.prog 83 #[.agg cs.toArray] W fun e W' => e = .returned (.bool (shapedS x)) ∧ Below W.heap.size W W' := by
 obtain ⟨A1, p1, A2, p2, A3, p3, rfl, _, _, _, _, _, _⟩ := k47_open hK
 obtain ⟨w1, hw1⟩ : ∃ w1, W.alloc (.cells #[.int .i64 x.f0, .slice A1 x.f1.length p1, .slice A2 x.f2.length p2, .slice A3 x.f3.length p3] 47) = w1 := ⟨_, rfl⟩
 have hnew : w1.heap[W.heap.size]? = some (.cells #[.int .i64 x.f0, .slice A1 x.f1.length p1, .slice A2 x.f2.length p2, .slice A3 x.f3.length p3] 47 (0, 0)) := by rw [← hw1]; exact blk_new _ _
 have hB1 : Below W.heap.size W w1 := hw1 ▸ below1 W _
 have q0 : ∀ p : Later w1, p.wx.cell? ⟨W.heap.size, 0, none⟩ = some (.int .i64 x.f0) := fun p => cell_after p.below ((blk_cell hnew 0).trans rfl)
 have q1 : ∀ p : Later w1, p.wx.cell? ⟨W.heap.size, 1, none⟩ = some (.slice A1 x.f1.length p1) := fun p => cell_after p.below ((blk_cell hnew 1).trans rfl)
 have q2 : ∀ p : Later w1, p.wx.cell? ⟨W.heap.size, 2, none⟩ = some (.slice A2 x.f2.length p2) := fun p => cell_after p.below ((blk_cell hnew 2).trans rfl)
 have q3 : ∀ p : Later w1, p.wx.cell? ⟨W.heap.size, 3, none⟩ = some (.slice A3 x.f3.length p3) := fun p => cell_after p.below ((blk_cell hnew 3).trans rfl)
 have z0 : w1.cell? ⟨W.heap.size, 0, none⟩ = some (.int .i64 x.f0) := (blk_cell hnew 0).trans rfl
 have HLAT : Aside0 (Below w1.heap.size w1 w1.drew) := ⟨below_drew1 (Below.refl _ _)⟩
 have HB1 := Aside0.mk hB1
 obtain ⟨b, hb⟩ : ∃ b, shapedS x = b := ⟨_, rfl⟩
 rw [hb]
 have RET : Aside0 (∀ v w', shapedS x = v → Below W.heap.size W w' → (Ending.returned (.bool v) = Ending.returned (.bool b) ∧ Below W.heap.size W w')) := ⟨fun v w' h1 h2 => ⟨by rw [← hb, h1], h2⟩⟩
 obtain ⟨c1, h1⟩ : ∃ c, ((x.f3.length : Int) == partsP x.f0) = c := ⟨_, rfl⟩
 obtain ⟨c2, h2⟩ : ∃ c, decide (0 < (x.f1.length : Int)) = c := ⟨_, rfl⟩
 obtain ⟨c3, h3⟩ : ∃ c, decide (0 < (x.f2.length : Int)) = c := ⟨_, rfl⟩
 obtain ⟨c4, h4⟩ : ∃ c, (x.f0 == 3) = c := ⟨_, rfl⟩
 obtain ⟨c5, h5⟩ : ∃ c, (x.f0 == 2) = c := ⟨_, rfl⟩
 have HV : Aside0 (shapedS x = (c1 && (c2 == (c4 || c5)) && (c3 == c4))) := ⟨by unfold shapedS; rw [h1, h2, h3, h4, h5]⟩
 have h2' : decide (0 < x.f1.length) = c2 := by rw [← h2]; simp
 have h3' : decide (0 < x.f2.length) = c3 := by rw [← h3]; simp
 clear hK hB hB1 hb hnew
 have cs7 : c1 = false ∨ c1 = true ∧ c4 = true ∧ c2 = true ∨ c1 = true ∧ c4 = true ∧ c2 = false ∨ c1 = true ∧ c4 = false ∧ c2 = true ∧ c5 = true ∨ c1 = true ∧ c4 = false ∧ c2 = true ∧ c5 = false ∨ c1 = true ∧ c4 = false ∧ c2 = false ∧ c5 = true ∨ c1 = true ∧ c4 = false ∧ c2 = false ∧ c5 = false := by
  cases c1 <;> cases c2 <;> cases c4 <;> cases c5 <;> simp
 rcases cs7 with rfl | ⟨rfl, rfl, rfl⟩ | ⟨rfl, rfl, rfl⟩ | ⟨rfl, rfl, rfl, rfl⟩ | ⟨rfl, rfl, rfl, rfl⟩ | ⟨rfl, rfl, rfl, rfl⟩ | ⟨rfl, rfl, rfl, rfl⟩
 all_goals
  go_enter Tryz.func83, Tryz.ntmps83
  go_wp2
  clear hw1 z0
  have hund : undef = Value.tuple #[] := rfl
  refine wp_region_held (S := fun w' => ∃ p : Later w1, w' = p.wx) (by kernel_rfl) ?_
  change wpAnyH _ _ _ _ _ _ _ _ (World.drew _)
  iterate 5 ((first | refine takeR (i := 0) (by decide +kernel) (by rfl) ?_ ?_ ?_ | refine takeR (i := 1) (by decide +kernel) (by rfl) ?_ ?_ ?_ | refine takeR (i := 2) (by decide +kernel) (by rfl) ?_ ?_ ?_ | refine takeR (i := 3) (by decide +kernel) (by rfl) ?_ ?_ ?_ | refine takeR (i := 4) (by decide +kernel) (by rfl) ?_ ?_ ?_); (focus first | exact fun _ _ _ _ h => h | exact fun _ _ _ _ h => HPQ.out _ _ _ _ (by rfl) h); (focus exact ⟨⟨_, HLAT.out⟩, rfl⟩); intro K hK; go_simp; (with_reducible refine hK _ ?_); clear hK K)
  refine hall1 (i := 5) (by kernel_rfl) (by rfl) (fun K hK => ?_)
  go_simp
  refine (gram_parts.calls 5 x.f0 (partsP x.f0) _ (partsP_f _)).mono ?_
  rintro e u1 ⟨rfl, hd⟩
  have HU1 : Aside0 (Below w1.heap.size w1 u1) := ⟨join_below HLAT.out hd.below⟩
  clear hd
  refine hK _ _ ⟨⟨_, HU1.out⟩, rfl⟩ ?_
  clear hK K
  iterate 8 ((first | refine takeR (i := 6) (by decide +kernel) (by rfl) ?_ ?_ ?_ | refine takeR (i := 7) (by decide +kernel) (by rfl) ?_ ?_ ?_ | refine takeR (i := 8) (by decide +kernel) (by rfl) ?_ ?_ ?_ | refine takeR (i := 9) (by decide +kernel) (by rfl) ?_ ?_ ?_ | refine takeR (i := 10) (by decide +kernel) (by rfl) ?_ ?_ ?_ | refine takeR (i := 11) (by decide +kernel) (by rfl) ?_ ?_ ?_ | refine takeR (i := 12) (by decide +kernel) (by rfl) ?_ ?_ ?_ | refine takeR (i := 13) (by decide +kernel) (by rfl) ?_ ?_ ?_); (focus first | exact fun _ _ _ _ h => h | exact fun _ _ _ _ h => HPQ.out _ _ _ _ (by rfl) h); (focus exact ⟨⟨_, HU1.out⟩, rfl⟩); intro K hK; go_simp; (with_reducible refine hK _ ?_); clear hK K)
  iterate 8 ((first | refine takeR (i := 14) (by decide +kernel) (by rfl) ?_ ?_ ?_ | refine takeR (i := 15) (by decide +kernel) (by rfl) ?_ ?_ ?_ | refine takeR (i := 16) (by decide +kernel) (by rfl) ?_ ?_ ?_ | refine takeR (i := 17) (by decide +kernel) (by rfl) ?_ ?_ ?_ | refine takeR (i := 18) (by decide +kernel) (by rfl) ?_ ?_ ?_ | refine takeR (i := 19) (by decide +kernel) (by rfl) ?_ ?_ ?_ | refine takeR (i := 20) (by decide +kernel) (by rfl) ?_ ?_ ?_ | refine takeR (i := 21) (by decide +kernel) (by rfl) ?_ ?_ ?_); (focus first | exact fun _ _ _ _ h => h | exact fun _ _ _ _ h => HPQ.out _ _ _ _ (by rfl) h); (focus exact ⟨⟨_, HU1.out⟩, rfl⟩); intro K hK; go_simp; (with_reducible refine hK _ ?_); clear hK K)
  iterate 7 ((first | refine takeR (i := 22) (by decide +kernel) (by rfl) ?_ ?_ ?_ | refine takeR (i := 23) (by decide +kernel) (by rfl) ?_ ?_ ?_ | refine takeR (i := 24) (by decide +kernel) (by rfl) ?_ ?_ ?_ | refine takeR (i := 25) (by decide +kernel) (by rfl) ?_ ?_ ?_ | refine takeR (i := 26) (by decide +kernel) (by rfl) ?_ ?_ ?_ | refine takeR (i := 27) (by decide +kernel) (by rfl) ?_ ?_ ?_ | refine takeR (i := 28) (by decide +kernel) (by rfl) ?_ ?_ ?_); (focus first | exact fun _ _ _ _ h => h | exact fun _ _ _ _ h => HPQ.out _ _ _ _ (by rfl) h); (focus exact ⟨⟨_, HU1.out⟩, rfl⟩); intro K hK; go_simp; (with_reducible refine hK _ ?_); clear hK K)
  refine wpAnyH_done (by kernel_rfl) ?_ _
  go_wp2
  go_ret
  exact RET.out _ _ (HV.out.trans (by first | rfl | (cases c3 <;> rfl) | (cases c2 <;> cases c3 <;> cases c4 <;> cases c5 <;> rfl))) (join_below HB1.out HU1.out)
end Go.Proofs.YthdfmbmbjpmlaaaGreatDoor.Rn
end
section
set_option linter.unusedVariables false
set_option linter.unusedSimpArgs false
namespace Go.Proofs.YthdfmbmbjpmlaaaGreatDoor.Rn
open Go Go.RowKit Go.Proofs.YthdfmbmbjpmlaaaGreatDoorW.PrintWords Go.Proofs.YthdfmbmbjpmlaaaGreatDoorW.PrintLast Go.Proofs.YthdfmbmbjpmlaaaGreatDoorW.PrintMore
def orS (a b : Option Int) : Option Int := match a with | none => b | some c => some c
mutual
/-- what is wrong with a pattern's node, and those within it -/
def nodeR (T : List Tok) : Pt → Option Int
 | ⟨k, n, e, l⟩ => if shapedS ⟨k, n, e, l⟩ = true then orS (namesS T (if k = 3 then 1 else 0) [] n) (orS (namesS T 2 [] e) (nodeL T l)) else some 5
def nodeL (T : List Tok) : List Pt → Option Int
 | [] => none
 | x :: l => orS (nodeR T x) (nodeL T l)
end
def NodeC (T : List Tok) (x : Pt) : Prop := ∀ (bc : Nat) (AT : Option Addr) (ct : Nat) (AR : Option Addr) (R : List Rul) (cr : Nat) (wh : Int) (w0 W : World) (cs : List Value), Below w0.heap.size w0 W → CourtAt bc AT T ct AR R cr wh W → kTok.C W AT T.length T → kPt.K w0 x cs →
 Calls Tryz.prog 71 #[.pointer (some ⟨bc, 0, none⟩), .agg cs.toArray] W (CourtPost wh (nodeR T x) W)
set_option maxHeartbeats 2000000 in
set_option maxRecDepth 100000 in
theorem node_go (T : List Tok) (x : Pt) (hx : ∀ y, y ∈ x.f3 → NodeC T y) : NodeC T x := by
 intro bc AT ct AR R cr wh w0 W cs hB hc hT hK
 have HK := Aside0.mk hK
 obtain ⟨A1, p1, A2, p2, A3, p3, rfl, hp1, hC1, hp2, hC2, _, hC3⟩ := k47_open hK
 have e1 : nodeR T x = if shapedS x = true then orS (namesS T (if x.f0 = 3 then 1 else 0) [] x.f1) (orS (namesS T 2 [] x.f2) (nodeL T x.f3)) else some 5 := by
  cases x
  rfl
 have hlen : x.f3.length ≤ 9223372036854775807 := hC3.2.1
 obtain ⟨w1, hw1⟩ : ∃ w1, W.alloc (.cells #[.int .i64 x.f0, .slice A1 x.f1.length p1, .slice A2 x.f2.length p2, .slice A3 x.f3.length p3] 47) = w1 := ⟨_, rfl⟩
 have hnew : w1.heap[W.heap.size]? = some (.cells #[.int .i64 x.f0, .slice A1 x.f1.length p1, .slice A2 x.f2.length p2, .slice A3 x.f3.length p3] 47 (0, 0)) := by rw [← hw1]; exact blk_new _ _
 have HB1 : Aside0 (Below W.heap.size W w1) := ⟨hw1 ▸ below1 W _⟩
 have z0 : w1.cell? ⟨W.heap.size, 0, none⟩ = some (.int .i64 x.f0) := (blk_cell hnew 0).trans rfl
 have z1 : w1.cell? ⟨W.heap.size, 1, none⟩ = some (.slice A1 x.f1.length p1) := (blk_cell hnew 1).trans rfl
 have z2 : w1.cell? ⟨W.heap.size, 2, none⟩ = some (.slice A2 x.f2.length p2) := (blk_cell hnew 2).trans rfl
 have z3 : w1.cell? ⟨W.heap.size, 3, none⟩ = some (.slice A3 x.f3.length p3) := (blk_cell hnew 3).trans rfl
 have HN := Aside0.mk hnew
 have HC := Aside0.mk hc
 have HT := Aside0.mk hT
 have HB := Aside0.mk hB
 have HX := Aside0.mk hx
 have HE := Aside0.mk e1
 have HC1 := Aside0.mk (And.intro hC1 hp1)
 have HC2 := Aside0.mk (And.intro hC2 hp2)
 have HC3 := Aside0.mk hC3
 obtain ⟨res, hres⟩ : ∃ res, nodeR T x = res := ⟨_, rfl⟩
 have HR := Aside0.mk hres
 rw [hres]
 clear hK hnew hc hT hB hx e1 hC1 hp1 hC2 hp2 hC3 hres
 go_enter Tryz.func71, Tryz.ntmps71
 have HW : Aside0 (Below w0.heap.size w0 w1) := ⟨join_below HB.out HB1.out⟩
 go_wp2_with fail
 refine (shaped_any x w0 _ _ HW.out HK.out).mono ?_
 rintro e w2 ⟨rfl, hb⟩
 have HB2 := Aside0.mk hb
 clear hb z0 z1 z2 z3 hw1
 cases hsh : shapedS x
 · have HRE : Aside0 (res = some 5) := ⟨by rw [← HR.out, HE.out, hsh]; rfl⟩
   clear hsh
   go_wp2_with fail
   refine (must_no 5 (CourtAt.later HC.out (join_below HB1.out HB2.out))).mono ?_
   rintro e w3 ⟨rfl, hb⟩
   have HB3 := Aside0.mk (join_below HB1.out (join_below HB2.out hb))
   clear hb
   go_wp2
   exact ⟨rfl, by rw [HRE.out]; exact CourtPost.bad HB3.out⟩
 · have HRE : Aside0 (orS (namesS T (if x.f0 = 3 then 1 else 0) [] x.f1) (orS (namesS T 2 [] x.f2) (nodeL T x.f3)) = res) := ⟨by rw [← HR.out, HE.out, if_pos hsh]⟩
   clear hsh
   go_wp2_with fail
   refine (must_yes 5 (CourtAt.later HC.out (join_below HB1.out HB2.out))).mono ?_
   rintro e w3 ⟨rfl, hb⟩
   have HB3 := Aside0.mk (join_below HB2.out hb)
   have z0 : w3.cell? ⟨W.heap.size, 0, none⟩ = some (.int .i64 x.f0) := (blk_cell (blk_below HN.out HB3.out) 0).trans rfl
   have z1 : w3.cell? ⟨W.heap.size, 1, none⟩ = some (.slice A1 x.f1.length p1) := (blk_cell (blk_below HN.out HB3.out) 1).trans rfl
   clear hb HB2
   obtain ⟨kd, hkd⟩ : ∃ kd : Int, (if x.f0 = 3 then 1 else 0) = kd := ⟨_, rfl⟩
   have HKD := Aside0.mk hkd
   have h2 : (x.f0 == 3) = true ∧ kd = 1 ∨ (x.f0 == 3) = false ∧ kd = 0 := by
    by_cases c : x.f0 = 3
    · exact .inl ⟨beq_iff_eq.2 c, by rw [← hkd, if_pos c]⟩
    · exact .inr ⟨beq_eq_false_iff_ne.2 c, by rw [← hkd, if_neg c]⟩
   clear hkd
   rcases h2 with ⟨k3, rfl⟩ | ⟨k3, rfl⟩
   all_goals
    have HRE2 := Aside0.mk HRE.out
    rw [HKD.out] at HRE2
    clear HRE HKD
    go_wp2_with fail
    refine (names_any bc AT T ct AR R cr wh A1 x.f1 p1 _ _ (CourtAt.later HC.out (join_below HB1.out HB3.out)) (Kd.C_below HT.out (join_below HB1.out HB3.out)) (Kd.C_below HC1.out.1 (join_below HW.out HB3.out)) HC1.out.2).mono ?_
    rintro e w4 ⟨hb, he⟩
    have HB4 := Aside0.mk (join_below HB3.out hb)
    clear hb z0 z1 k3 HB3
    have HR1 := HRE2.out
    first
     | (obtain ⟨r1, hr1⟩ : ∃ r, namesS T 1 [] x.f1 = r := ⟨_, rfl⟩; rw [hr1] at he HR1)
     | (obtain ⟨r1, hr1⟩ : ∃ r, namesS T 0 [] x.f1 = r := ⟨_, rfl⟩; rw [hr1] at he HR1)
    have HR1' := Aside0.mk HR1
    clear hr1 HR1 HRE2
    cases r1 with
    | some c =>
     have he' : e = .panicked [{ v := faultV c wh, recovered := false }] := he
     subst he'
     have HQ : Aside0 (res = some c) := ⟨HR1'.out.symm⟩
     clear he
     go_wp2
     exact ⟨rfl, by rw [HQ.out]; exact CourtPost.bad (join_below HB1.out HB4.out)⟩
    | none =>
     have he' : e = .returned (.tuple #[]) := he
     subst he'
     have HQ : Aside0 (orS (namesS T 2 [] x.f2) (nodeL T x.f3) = res) := ⟨HR1'.out⟩
     have z2 : w4.cell? ⟨W.heap.size, 2, none⟩ = some (.slice A2 x.f2.length p2) := (blk_cell (blk_below HN.out HB4.out) 2).trans rfl
     clear he HR1'
     go_wp2_with fail
     refine (names_any bc AT T ct AR R cr wh A2 x.f2 p2 _ _ (CourtAt.later HC.out (join_below HB1.out HB4.out)) (Kd.C_below HT.out (join_below HB1.out HB4.out)) (Kd.C_below HC2.out.1 (join_below HW.out HB4.out)) HC2.out.2).mono ?_
     rintro e w5 ⟨hb, he⟩
     have HB5 := Aside0.mk (join_below HB4.out hb)
     clear hb z2 HB4
     obtain ⟨r2, hr2⟩ : ∃ r, namesS T 2 [] x.f2 = r := ⟨_, rfl⟩
     have HQ2 := HQ.out
     rw [hr2] at he HQ2
     have HQ2' := Aside0.mk HQ2
     clear hr2 HQ2 HQ
     cases r2 with
     | some c =>
      have he' : e = .panicked [{ v := faultV c wh, recovered := false }] := he
      subst he'
      have HQ : Aside0 (res = some c) := ⟨HQ2'.out.symm⟩
      clear he
      go_wp2
      exact ⟨rfl, by rw [HQ.out]; exact CourtPost.bad (join_below HB1.out HB5.out)⟩
     | none =>
      have he' : e = .returned (.tuple #[]) := he
      subst he'
      have HQ : Aside0 (nodeL T (x.f3.drop 0) = res) := ⟨HQ2'.out⟩
      have z3 : w5.cell? ⟨W.heap.size, 3, none⟩ = some (.slice A3 x.f3.length p3) := (blk_cell (blk_below HN.out HB5.out) 3).trans rfl
      clear he HQ2'
      go_wp2
      go_loopw [26] (fun i w' => ∃ k : Nat, i = .int .i64 k ∧ k ≤ x.f3.length ∧ Aside0 (nodeL T (x.f3.drop k) = res) ∧ Aside0 (Below w1.heap.size w1 w')) (fun i _ => x.f3.length - (intOf i).toNat)
      case atStart => exact ⟨0, rfl, Nat.zero_le _, HQ, HB5⟩
      case round =>
       clear z3
       obtain ⟨k, rfl, hkl, HI, HBI⟩ := hrel
       by_cases hlt : k < x.f3.length
       · obtain ⟨g, o, rfl, _, hcell⟩ := row_cells HC3.out (by omega) (by decide)
         obtain ⟨y, hy⟩ : ∃ y, x.f3[k]? = some y := ⟨_, List.getElem?_eq_getElem hlt⟩
         obtain ⟨cs, _, hKy, hcc⟩ := hcell k y hy
         have HKy := Aside0.mk hKy
         obtain ⟨D1, d1, D2, d2, D3, d3, rfl, _, _, _, _, _, _⟩ := k47_open hKy
         have v0 := cell_after (join_below HW.out HBI.out) (hcc 0 (.int .i64 y.f0) rfl)
         have v1 := cell_after (join_below HW.out HBI.out) (hcc 1 (.slice D1 y.f1.length d1) rfl)
         have v2 := cell_after (join_below HW.out HBI.out) (hcc 2 (.slice D2 y.f2.length d2) rfl)
         have v3 := cell_after (join_below HW.out HBI.out) (hcc 3 (.slice D3 y.f3.length d3) rfl)
         rw [Nat.add_zero] at v0
         simp only [show kPt.sz = 4 from rfl] at v0 v1 v2 v3
         have hdk : x.f3.drop k = y :: x.f3.drop (k + 1) := by
          rw [List.drop_eq_getElem_cons hlt]
          rw [List.getElem?_eq_getElem hlt] at hy
          rw [Option.some.inj hy]
         have hI2 := HI.out
         rw [hdk, nodeL] at hI2
         have HI2 := Aside0.mk hI2
         have HY := Aside0.mk (HX.out y (List.mem_of_getElem? hy))
         clear hcell hcc hKy hy hdk hI2 HI
         go_wp2_with fail
         refine (HY.out bc AT ct AR R cr wh w0 _ _ (join_below HW.out (below_alloc HBI.out _)) (CourtAt.later HC.out (join_below HB1.out (below_alloc HBI.out _))) (Kd.C_below HT.out (join_below HB1.out (below_alloc HBI.out _))) HKy.out).mono ?_
         rintro e w6 ⟨hb, he⟩
         have HB6 := Aside0.mk (join_below (below_alloc HBI.out _) hb)
         clear hb v0 v1 v2 v3
         obtain ⟨r3, hr3⟩ : ∃ r, nodeR T y = r := ⟨_, rfl⟩
         have HI3 := HI2.out
         rw [hr3] at he HI3
         have HI4 := Aside0.mk HI3
         clear hr3 HI3 HI2
         cases r3 with
         | some c =>
          have he' : e = .panicked [{ v := faultV c wh, recovered := false }] := he
          subst he'
          have HQ : Aside0 (res = some c) := ⟨HI4.out.symm⟩
          clear he
          go_wp2
          exact ⟨rfl, by rw [HQ.out]; exact CourtPost.bad (join_below HB1.out HB6.out)⟩
         | none =>
          have he' : e = .returned (.tuple #[]) := he
          subst he'
          have HQ : Aside0 (nodeL T (x.f3.drop (k + 1)) = res) := ⟨HI4.out⟩
          clear he HI4
          go_wp2
          go_roundw
          case rel => exact ⟨k + 1, by go_num, by omega, HQ, HB6⟩
          case measure => simp [intOf]; omega
       · have e : k = x.f3.length := by omega
         have HQ : Aside0 (res = none) := ⟨by rw [← HI.out, e, List.drop_length]; rfl⟩
         clear e
         go_wp2
         first | go_end0 | refine bodyPost_ret (results_none rfl _ _ _) rfl ?_
         rw [HQ.out]
         exact CourtPost.ok (join_below HB1.out HBI.out)
end Go.Proofs.YthdfmbmbjpmlaaaGreatDoor.Rn
end
section
set_option linter.unusedVariables false
set_option linter.unusedSimpArgs false
namespace Go.Proofs.YthdfmbmbjpmlaaaGreatDoor.Rn
open Go Go.RowKit Go.Proofs.YthdfmbmbjpmlaaaGreatDoorW.PrintWords Go.Proofs.YthdfmbmbjpmlaaaGreatDoorW.PrintLast Go.Proofs.YthdfmbmbjpmlaaaGreatDoorW.PrintMore
theorem node_all (T : List Tok) : ∀ (N : Nat) (x : Pt), SizeOf.sizeOf x < N → NodeC T x
 | 0, x, h => absurd h (Nat.not_lt_zero _)
 | N + 1, x, h => node_go T x (fun y hy => node_all T N y (by
     have h1 := List.sizeOf_lt_of_mem hy
     have h2 : SizeOf.sizeOf x.f3 < SizeOf.sizeOf x := by
      cases x
      simp
      omega
     omega))
def patS (T : List Tok) (x : Pt) : Option Int := if fewS x = true then nodeR T x else some 6
set_option maxHeartbeats 2000000 in
set_option maxRecDepth 100000 in
theorem pattern_any (T : List Tok) (x : Pt) (bc : Nat) (AT : Option Addr) (ct : Nat) (AR : Option Addr) (R : List Rul) (cr : Nat) (wh : Int) (w0 W : World) (cs : List Value) (hB : Below w0.heap.size w0 W) (hc : CourtAt bc AT T ct AR R cr wh W) (hT : kTok.C W AT T.length T) (hK : kPt.K w0 x cs) :
 Calls Tryz.prog 52 #[.pointer (some ⟨bc, 0, none⟩), .agg cs.toArray] W (CourtPost wh (patS T x) W) := by
 have HK := Aside0.mk hK
 obtain ⟨A1, p1, A2, p2, A3, p3, rfl, _, _, _, _, _, _⟩ := k47_open hK
 obtain ⟨w1, hw1⟩ : ∃ w1, W.alloc (.cells #[.int .i64 x.f0, .slice A1 x.f1.length p1, .slice A2 x.f2.length p2, .slice A3 x.f3.length p3] 47) = w1 := ⟨_, rfl⟩
 have hnew : w1.heap[W.heap.size]? = some (.cells #[.int .i64 x.f0, .slice A1 x.f1.length p1, .slice A2 x.f2.length p2, .slice A3 x.f3.length p3] 47 (0, 0)) := by rw [← hw1]; exact blk_new _ _
 have HB1 : Aside0 (Below W.heap.size W w1) := ⟨hw1 ▸ below1 W _⟩
 have z0 : w1.cell? ⟨W.heap.size, 0, none⟩ = some (.int .i64 x.f0) := (blk_cell hnew 0).trans rfl
 have z1 : w1.cell? ⟨W.heap.size, 1, none⟩ = some (.slice A1 x.f1.length p1) := (blk_cell hnew 1).trans rfl
 have z2 : w1.cell? ⟨W.heap.size, 2, none⟩ = some (.slice A2 x.f2.length p2) := (blk_cell hnew 2).trans rfl
 have z3 : w1.cell? ⟨W.heap.size, 3, none⟩ = some (.slice A3 x.f3.length p3) := (blk_cell hnew 3).trans rfl
 have HN := Aside0.mk hnew
 have HC := Aside0.mk hc
 have HT := Aside0.mk hT
 have HB : Aside0 (Below w0.heap.size w0 w1) := ⟨join_below hB HB1.out⟩
 clear hK hnew hc hT hB
 go_enter Tryz.func52, Tryz.ntmps52
 go_wp2_with fail
 refine (few_any x w0 _ _ HB.out HK.out).mono ?_
 rintro e w2 ⟨rfl, hb⟩
 have HB2 := Aside0.mk (join_below HB1.out hb)
 have HW2 := Aside0.mk (join_below HB.out hb)
 have HN2 := Aside0.mk (blk_below HN.out hb)
 clear hb z0 z1 z2 z3 hw1
 obtain ⟨b, hb⟩ : ∃ b, fewS x = b := ⟨_, rfl⟩
 rw [hb]
 have HF := Aside0.mk hb
 clear hb
 cases b
 · go_wp2_with fail
   refine (must_no 6 (CourtAt.later HC.out HB2.out)).mono ?_
   rintro e w3 ⟨rfl, hb⟩
   have HB3 := Aside0.mk (join_below HB2.out hb)
   clear hb
   go_wp2
   exact ⟨rfl, by rw [patS, if_neg (by rw [HF.out]; decide)]; exact CourtPost.bad HB3.out⟩
 · go_wp2_with fail
   refine (must_yes 6 (CourtAt.later HC.out HB2.out)).mono ?_
   rintro e w3 ⟨rfl, hb⟩
   have HB3 := Aside0.mk (join_below HB2.out hb)
   have HW3 := Aside0.mk (join_below HW2.out hb)
   have hnew := blk_below HN2.out hb
   have z0 : w3.cell? ⟨W.heap.size, 0, none⟩ = some (.int .i64 x.f0) := (blk_cell hnew 0).trans rfl
   have z1 : w3.cell? ⟨W.heap.size, 1, none⟩ = some (.slice A1 x.f1.length p1) := (blk_cell hnew 1).trans rfl
   have z2 : w3.cell? ⟨W.heap.size, 2, none⟩ = some (.slice A2 x.f2.length p2) := (blk_cell hnew 2).trans rfl
   have z3 : w3.cell? ⟨W.heap.size, 3, none⟩ = some (.slice A3 x.f3.length p3) := (blk_cell hnew 3).trans rfl
   clear hb hnew HB2 HW2 HN2
   go_wp2_with fail
   refine (node_all T _ x (Nat.lt_succ_self _) bc AT ct AR R cr wh w0 _ _ HW3.out (CourtAt.later HC.out HB3.out) (Kd.C_below HT.out HB3.out) HK.out).mono ?_
   rintro e w4 ⟨hb, he⟩
   have HB4 := Aside0.mk (join_below HB3.out hb)
   clear hb z0 z1 z2 z3
   have HP : Aside0 (patS T x = nodeR T x) := ⟨by rw [patS, if_pos HF.out]⟩
   obtain ⟨r, hr⟩ : ∃ r, nodeR T x = r := ⟨_, rfl⟩
   rw [hr] at he
   have HR : Aside0 (patS T x = r) := ⟨by rw [HP.out, hr]⟩
   clear hr HP HF
   cases r with
   | some c =>
    have he' : e = .panicked [{ v := faultV c wh, recovered := false }] := he
    subst he'
    clear he
    go_wp2
    exact ⟨rfl, by rw [HR.out]; exact CourtPost.bad HB4.out⟩
   | none =>
    have he' : e = .returned (.tuple #[]) := he
    subst he'
    clear he
    go_wp2
    first | go_end0 | refine bodyPost_ret (results_none rfl _ _ _) rfl ?_
    rw [HR.out]
    exact CourtPost.ok HB4.out
abbrev Stp := S49
abbrev kStp := k49
def stepsS (T : List Tok) (free : Bool) : Nat → List Stp → Option Int
 | _, [] => none
 | i, s :: l => if (decide (0 < s.f0.length) == (decide (0 < i) || free)) = true then orS (namesS T 1 [] s.f0) (orS (patS T s.f1) (stepsS T free (i + 1) l)) else some 5
def ruleS (T : List Tok) (x : Rul) : Option Int := orS (classS x.f0) (if 1 ≤ x.f2.length ∧ x.f2.length ≤ 4 then stepsS T x.f1 0 x.f2 else some 6)
set_option maxHeartbeats 4000000 in
set_option maxRecDepth 100000 in
theorem rule_any (T : List Tok) (x : Rul) (bc : Nat) (AT : Option Addr) (ct : Nat) (AR : Option Addr) (R : List Rul) (cr : Nat) (wh : Int) (w0 W : World) (cs : List Value) (hB : Below w0.heap.size w0 W) (hc : CourtAt bc AT T ct AR R cr wh W) (hT : kTok.C W AT T.length T) (hK : kRul.K w0 x cs) :
 Calls Tryz.prog 24 #[.pointer (some ⟨bc, 0, none⟩), .agg cs.toArray] W (CourtPost wh (ruleS T x) W) := by
 obtain ⟨A2, p2, rfl, _, hC2⟩ := k43_open hK
 have hlen : x.f2.length ≤ 9223372036854775807 := hC2.2.1
 obtain ⟨w1, hw1⟩ : ∃ w1, W.alloc (.cells #[.int .i64 x.f0, .bool x.f1, .slice A2 x.f2.length p2] 43) = w1 := ⟨_, rfl⟩
 have hnew : w1.heap[W.heap.size]? = some (.cells #[.int .i64 x.f0, .bool x.f1, .slice A2 x.f2.length p2] 43 (0, 0)) := by rw [← hw1]; exact blk_new _ _
 have HB1 : Aside0 (Below W.heap.size W w1) := ⟨hw1 ▸ below1 W _⟩
 have z0 : w1.cell? ⟨W.heap.size, 0, none⟩ = some (.int .i64 x.f0) := (blk_cell hnew 0).trans rfl
 have HN := Aside0.mk hnew
 have HC := Aside0.mk hc
 have HT := Aside0.mk hT
 have HW : Aside0 (Below w0.heap.size w0 w1) := ⟨join_below hB HB1.out⟩
 have HS := Aside0.mk hC2
 obtain ⟨res, hres⟩ : ∃ res, ruleS T x = res := ⟨_, rfl⟩
 have HR0 := Aside0.mk (show orS (classS x.f0) (if 1 ≤ x.f2.length ∧ x.f2.length ≤ 4 then stepsS T x.f1 0 x.f2 else some 6) = res from hres)
 rw [hres]
 clear hK hnew hc hT hB hC2 hres
 go_enter Tryz.func24, Tryz.ntmps24
 go_wp2_with fail
 refine (class_any bc AT T ct AR R cr wh x.f0 _ (CourtAt.later HC.out HB1.out)).mono ?_
 rintro e w2 ⟨hb, he⟩
 have HB2 := Aside0.mk (show Below w1.heap.size w1 w2 from hb)
 clear hb z0 hw1
 have hR := HR0.out
 generalize classS x.f0 = r0 at he hR
 have HR := Aside0.mk hR
 clear hR HR0
 cases r0 with
 | some c =>
  have he' : e = .panicked [{ v := faultV c wh, recovered := false }] := he
  subst he'
  clear he
  go_wp2
  exact ⟨rfl, by rw [← HR.out]; exact CourtPost.bad (join_below HB1.out HB2.out)⟩
 | none =>
  have he' : e = .returned (.tuple #[]) := he
  subst he'
  clear he
  have HR1 := Aside0.mk (show (if 1 ≤ x.f2.length ∧ x.f2.length ≤ 4 then stepsS T x.f1 0 x.f2 else some 6) = res from HR.out)
  clear HR
  have z2 : w2.cell? ⟨W.heap.size, 2, none⟩ = some (.slice A2 x.f2.length p2) := (blk_cell (blk_below HN.out HB2.out) 2).trans rfl
  by_cases c1 : 1 ≤ x.f2.length ∧ x.f2.length ≤ 4
  case neg =>
   have HR2 := Aside0.mk HR1.out
   rw [if_neg c1] at HR2
   clear HR1
   have hcs : x.f2.length = 0 ∨ (1 ≤ (x.f2.length : Int) ∧ ¬ ((x.f2.length : Int) ≤ 4)) := by omega
   rcases hcs with h0 | ⟨h1, h2⟩
   · have d1 : decide (1 ≤ (x.f2.length : Int)) = false := decide_eq_false (by omega)
     clear h0 c1
     go_wp2_with fail
     refine (must_no 6 (CourtAt.later HC.out (join_below HB1.out HB2.out))).mono ?_
     rintro e w3 ⟨rfl, hb⟩
     have HB3 := Aside0.mk (join_below HB1.out (join_below HB2.out hb))
     clear hb z2
     go_wp2
     exact ⟨rfl, by rw [← HR2.out]; exact CourtPost.bad HB3.out⟩
   · have d2 : decide ((x.f2.length : Int) ≤ 4) = false := decide_eq_false h2
     clear c1
     go_wp2_with fail
     refine (must_no 6 (CourtAt.later HC.out (join_below HB1.out HB2.out))).mono ?_
     rintro e w3 ⟨rfl, hb⟩
     have HB3 := Aside0.mk (join_below HB1.out (join_below HB2.out hb))
     clear hb z2
     go_wp2
     exact ⟨rfl, by rw [← HR2.out]; exact CourtPost.bad HB3.out⟩
  case pos =>
   have HR2 := Aside0.mk HR1.out
   rw [if_pos c1] at HR2
   clear HR1
   obtain ⟨g1, g2⟩ := c1
   have h1 : 1 ≤ (x.f2.length : Int) := by omega
   have h2 : (x.f2.length : Int) ≤ 4 := by omega
   go_wp2_with fail
   refine (must_yes 6 (CourtAt.later HC.out (join_below HB1.out HB2.out))).mono ?_
   rintro e w3 ⟨rfl, hb⟩
   have HB3 := Aside0.mk (join_below HB2.out hb)
   clear hb z2 HB2
   have z2 : w3.cell? ⟨W.heap.size, 2, none⟩ = some (.slice A2 x.f2.length p2) := (blk_cell (blk_below HN.out HB3.out) 2).trans rfl
   go_wp2
   go_loopw [25] (fun i w' => ∃ k : Nat, i = .int .i64 k ∧ k ≤ x.f2.length ∧ Aside0 (stepsS T x.f1 k (x.f2.drop k) = res) ∧ Aside0 (Below w1.heap.size w1 w')) (fun i _ => x.f2.length - (intOf i).toNat)
   case atStart => exact ⟨0, rfl, Nat.zero_le _, HR2, HB3⟩
   case round =>
    clear z2
    obtain ⟨k, rfl, hkl, HI, HBI⟩ := hrel
    by_cases hlt : k < x.f2.length
    · obtain ⟨g, o, rfl, hgl, hcell⟩ := row_cells HS.out (by omega) (by decide)
      obtain ⟨y, hy⟩ : ∃ y, x.f2[k]? = some y := ⟨_, List.getElem?_eq_getElem hlt⟩
      obtain ⟨cs, _, hKy, hcc⟩ := hcell k y hy
      obtain ⟨D0, d0, D2, d2, D3, d3, D4, d4, rfl, hd0, hD0, q2, Q2, q3, Q3, q4, Q4⟩ := k49_open hKy
      have HKy := Aside0.mk (kPt.K_below (Below.refl w0.heap.size w0) (k47_mk w0 y.f1 q2 Q2 q3 Q3 q4 Q4))
      have v0 := cell_after (join_below HW.out HBI.out) (hcc 0 (.slice D0 y.f0.length d0) rfl)
      have v1 := cell_after (join_below HW.out HBI.out) (hcc 1 (.int .i64 y.f1.f0) rfl)
      have v2 := cell_after (join_below HW.out HBI.out) (hcc 2 (.slice D2 y.f1.f1.length d2) rfl)
      have v3 := cell_after (join_below HW.out HBI.out) (hcc 3 (.slice D3 y.f1.f2.length d3) rfl)
      have v4 := cell_after (join_below HW.out HBI.out) (hcc 4 (.slice D4 y.f1.f3.length d4) rfl)
      rw [Nat.add_zero] at v0
      simp only [show kStp.sz = 5 from rfl] at v0 v1 v2 v3 v4
      have hdk : x.f2.drop k = y :: x.f2.drop (k + 1) := by
       rw [List.drop_eq_getElem_cons hlt]
       rw [List.getElem?_eq_getElem hlt] at hy
       rw [Option.some.inj hy]
      have hI2 := HI.out
      rw [hdk, stepsS] at hI2
      obtain ⟨wn, hwn⟩ : ∃ wn, wr.alloc (.cells #[.slice D0 y.f0.length d0, .int .i64 y.f1.f0, .slice D2 y.f1.f1.length d2, .slice D3 y.f1.f2.length d3, .slice D4 y.f1.f3.length d4] 49) = wn := ⟨_, rfl⟩
      have hnew : wn.heap[wr.heap.size]? = some (.cells #[.slice D0 y.f0.length d0, .int .i64 y.f1.f0, .slice D2 y.f1.f1.length d2, .slice D3 y.f1.f2.length d3, .slice D4 y.f1.f3.length d4] 49 (0, 0)) := by rw [← hwn]; exact blk_new _ _
      have HBn : Aside0 (Below w1.heap.size w1 wn) := ⟨hwn ▸ below_alloc HBI.out _⟩
      have zf : wn.cell? ⟨W.heap.size, 1, none⟩ = some (.bool x.f1) := (blk_cell (blk_below HN.out HBn.out) 1).trans rfl
      have y0 : wn.cell? ⟨wr.heap.size, 0, none⟩ = some (.slice D0 y.f0.length d0) := (blk_cell hnew 0).trans rfl
      have HNn := Aside0.mk hnew
      have HD0 := Aside0.mk (And.intro hD0 hd0)
      have hcase : (0 < k ∧ (decide (0 < k) || x.f1) = true) ∨ (¬ 0 < k ∧ (decide (0 < k) || x.f1) = x.f1) := by
       by_cases c : 0 < k
       · exact .inl ⟨c, by rw [decide_eq_true c]; rfl⟩
       · exact .inr ⟨c, by rw [decide_eq_false c]; rfl⟩
      obtain ⟨q, hq⟩ : ∃ q, (decide (0 < k) || x.f1) = q := ⟨_, rfl⟩
      rw [hq] at hI2 hcase
      have HI2 := Aside0.mk hI2
      clear hcell hcc hKy hy hdk hI2 HI hnew hd0 hD0 q2 Q2 q3 Q3 q4 Q4 hq
      rcases hcase with ⟨hk0, rfl⟩ | ⟨hk0, rfl⟩
      all_goals
       go_wp2_with fail
       refine (must_any bc AT T ct AR R cr wh _ 5 _ (CourtAt.later HC.out (join_below HB1.out HBn.out))).mono ?_
       rintro e w4 ⟨hb, he⟩
       have HB4 := Aside0.mk (show Below wn.heap.size wn w4 from hb)
       clear hb v0 v1 v2 v3 v4 zf y0 hk0 hwn
       have hI3 := HI2.out
       clear HI2
       have hz2 : ∃ z : Bool, (if z = true then orS (namesS T 1 [] y.f0) (orS (patS T y.f1) (stepsS T x.f1 (k + 1) (x.f2.drop (k + 1)))) else some 5) = res ∧ e = match (if z = true then none else some 5 : Option Int) with | none => .returned (.tuple #[]) | some c => .panicked [{ v := faultV c wh, recovered := false }] := by
        refine ⟨_, hI3, ?_⟩
        rw [he]
        clear he hI3
        cases decide (0 < y.f0.length) <;> cases x.f1 <;> rfl
       clear he hI3
       obtain ⟨z, hI3, he⟩ := hz2
       have HI3 := Aside0.mk hI3
       clear hI3
       cases z with
       | false =>
        have he' : e = .panicked [{ v := faultV 5 wh, recovered := false }] := he
        subst he'
        have HQ : Aside0 (res = some 5) := ⟨HI3.out.symm⟩
        clear he
        go_wp2
        exact ⟨rfl, by rw [HQ.out]; exact CourtPost.bad (join_below HB1.out (join_below HBn.out HB4.out))⟩
       | true =>
        have he' : e = .returned (.tuple #[]) := he
        subst he'
        have HQ : Aside0 (orS (namesS T 1 [] y.f0) (orS (patS T y.f1) (stepsS T x.f1 (k + 1) (x.f2.drop (k + 1)))) = res) := ⟨HI3.out⟩
        clear he HI3
        have y0 : w4.cell? ⟨wr.heap.size, 0, none⟩ = some (.slice D0 y.f0.length d0) := (blk_cell (blk_below HNn.out HB4.out) 0).trans rfl
        go_wp2_with fail
        refine (names_any bc AT T ct AR R cr wh D0 y.f0 d0 _ _ (CourtAt.later HC.out (join_below HB1.out (join_below HBn.out HB4.out))) (Kd.C_below HT.out (join_below HB1.out (join_below HBn.out HB4.out))) (Kd.C_below HD0.out.1 (join_below HW.out (join_below HBn.out HB4.out))) HD0.out.2).mono ?_
        rintro e w5 ⟨hb, he⟩
        have HB5 := Aside0.mk (join_below HB4.out hb)
        clear hb y0 HB4
        have hQ := HQ.out
        clear HQ
        generalize namesS T 1 [] y.f0 = r1 at he hQ
        have HQ := Aside0.mk hQ
        clear hQ
        cases r1 with
        | some c =>
         have he' : e = .panicked [{ v := faultV c wh, recovered := false }] := he
         subst he'
         have HQ2 : Aside0 (res = some c) := ⟨HQ.out.symm⟩
         clear he
         go_wp2
         exact ⟨rfl, by rw [HQ2.out]; exact CourtPost.bad (join_below HB1.out (join_below HBn.out HB5.out))⟩
        | none =>
         have he' : e = .returned (.tuple #[]) := he
         subst he'
         have HQ2 : Aside0 (orS (patS T y.f1) (stepsS T x.f1 (k + 1) (x.f2.drop (k + 1))) = res) := ⟨HQ.out⟩
         clear he HQ
         have hnew := blk_below HNn.out HB5.out
         have y1 : w5.cell? ⟨wr.heap.size, 1, none⟩ = some (.int .i64 y.f1.f0) := (blk_cell hnew 1).trans rfl
         have y2 : w5.cell? ⟨wr.heap.size, 2, none⟩ = some (.slice D2 y.f1.f1.length d2) := (blk_cell hnew 2).trans rfl
         have y3 : w5.cell? ⟨wr.heap.size, 3, none⟩ = some (.slice D3 y.f1.f2.length d3) := (blk_cell hnew 3).trans rfl
         have y4 : w5.cell? ⟨wr.heap.size, 4, none⟩ = some (.slice D4 y.f1.f3.length d4) := (blk_cell hnew 4).trans rfl
         clear hnew
         go_wp2_with fail
         refine (pattern_any T y.f1 bc AT ct AR R cr wh w0 _ _ (join_below HW.out (join_below HBn.out HB5.out)) (CourtAt.later HC.out (join_below HB1.out (join_below HBn.out HB5.out))) (Kd.C_below HT.out (join_below HB1.out (join_below HBn.out HB5.out))) HKy.out).mono ?_
         rintro e w6 ⟨hb, he⟩
         have HB6 := Aside0.mk (join_below HB5.out hb)
         clear hb y1 y2 y3 y4
         have hQ := HQ2.out
         clear HQ2
         generalize patS T y.f1 = r2 at he hQ
         have HQ := Aside0.mk hQ
         clear hQ
         cases r2 with
         | some c =>
          have he' : e = .panicked [{ v := faultV c wh, recovered := false }] := he
          subst he'
          have HQ2 : Aside0 (res = some c) := ⟨HQ.out.symm⟩
          clear he
          go_wp2
          exact ⟨rfl, by rw [HQ2.out]; exact CourtPost.bad (join_below HB1.out (join_below HBn.out HB6.out))⟩
         | none =>
          have he' : e = .returned (.tuple #[]) := he
          subst he'
          have HQ2 : Aside0 (stepsS T x.f1 (k + 1) (x.f2.drop (k + 1)) = res) := ⟨HQ.out⟩
          clear he HQ
          go_wp2
          go_roundw
          case rel => exact ⟨k + 1, by go_num, by omega, HQ2, ⟨join_below HBn.out HB6.out⟩⟩
          case measure => simp [intOf]; omega
    · have e : k = x.f2.length := by omega
      have HQ : Aside0 (res = none) := ⟨by rw [← HI.out, e, List.drop_length]; rfl⟩
      clear e
      go_wp2
      first | go_end0 | refine bodyPost_ret (results_none rfl _ _ _) rfl ?_
      rw [HQ.out]
      exact CourtPost.ok (join_below HB1.out HBI.out)
end Go.Proofs.YthdfmbmbjpmlaaaGreatDoor.Rn
end
section
set_option linter.unusedVariables false
set_option linter.unusedSimpArgs false
namespace Go.Proofs.YthdfmbmbjpmlaaaGreatDoor.Rn
open Go Go.RowKit Go.Proofs.YthdfmbmbjpmlaaaGreatDoorW.PrintWords Go.Proofs.YthdfmbmbjpmlaaaGreatDoorW.PrintLast Go.Proofs.YthdfmbmbjpmlaaaGreatDoorW.PrintMore
def ownL : List ByteArray := [⟨#[116, 111, 107]⟩, ⟨#[114, 117, 108, 101]⟩, ⟨#[105, 110, 116]⟩, ⟨#[99, 97, 108, 108]⟩, ⟨#[114, 101, 116]⟩, ⟨#[102, 114, 101, 101]⟩]
def OwnAt (W : World) : Prop := Kd.string.C W (some ⟨0, 0, none⟩) 6 ownL
theorem OwnAt.below {W W' : World} {b : Nat} (h : OwnAt W) (hb : Below b W W') (hs : W.heap.size ≤ b) : OwnAt W' := Kd.C_below h (hb.mono hs)
def letterS (i : Nat) (c : UInt8) : Bool := decide (97 ≤ c.toNat ∧ c.toNat ≤ 122) || decide (0 < i ∧ 48 ≤ c.toNat ∧ c.toNat ≤ 57)
def lettersS : Nat → List UInt8 → Bool
 | _, [] => true
 | i, c :: l => letterS i c && lettersS (i + 1) l
def nameS (s : ByteArray) : Bool := lettersS 0 s.toList && (decide (1 ≤ s.size ∧ s.size ≤ 12) && !hasT ownL s)
theorem toList_length (s : ByteArray) : s.toList.length = s.size := by
 rw [ByteArray.toList_eq]
 rfl
theorem toList_get (s : ByteArray) (k : Nat) (h : k < s.size) : s.toList[k]? = some s[k] := by
 rw [ByteArray.toList_eq]
 exact List.getElem?_eq_getElem (h := h)
set_option maxHeartbeats 2000000 in
set_option maxRecDepth 100000 in
theorem name_any (s : ByteArray) (hs : s.size ≤ 9223372036854775807) (W : World) (hO : OwnAt W) :
 Calls Tryz.prog 11 #[.string s] W fun e W' => e = .returned (.bool (nameS s)) ∧ Below W.heap.size W W' := by
 obtain ⟨res, hres⟩ : ∃ r, nameS s = r := ⟨_, rfl⟩
 rw [hres]
 have HR : Aside0 ((lettersS 0 (s.toList.drop 0) && (decide (1 ≤ s.size ∧ s.size ≤ 12) && !hasT ownL s)) = res) := ⟨hres⟩
 have HO := Aside0.mk hO
 clear hO hres
 go_enter Tryz.func11, Tryz.ntmps11
 go_wp2
 go_loopw [7] (fun i w' => ∃ k : Nat, i = .int .i64 k ∧ k ≤ s.size ∧ Aside0 ((lettersS k (s.toList.drop k) && (decide (1 ≤ s.size ∧ s.size ≤ 12) && !hasT ownL s)) = res) ∧ w' = W) (fun i _ => s.size - (intOf i).toNat)
 case atStart => exact ⟨0, rfl, Nat.zero_le _, HR, rfl⟩
 case round =>
  obtain ⟨k, rfl, hkl, HI, rfl⟩ := hrel
  by_cases hlt : k < s.size
  · have hdk : s.toList.drop k = s[k] :: s.toList.drop (k + 1) := by
     have h := toList_get s k hlt
     have hl : k < s.toList.length := by rw [toList_length]; exact hlt
     rw [List.drop_eq_getElem_cons hl]
     rw [List.getElem?_eq_getElem hl] at h
     rw [Option.some.inj h]
    have hI := HI.out
    rw [hdk, lettersS] at hI
    have HI2 := Aside0.mk hI
    clear hI HI hdk
    obtain ⟨c, hc⟩ : ∃ c : Nat, (s[k]).toNat = c := ⟨_, rfl⟩
    have hq : (((97 : Int) ≤ c ∧ (c : Int) ≤ 122) ∨ ((c : Int) < 97 ∧ 0 < k ∧ (48 : Int) ≤ c ∧ (c : Int) ≤ 57)) ∨ (((97 : Int) ≤ c ∧ (122 : Int) < c ∧ ¬ 0 < k) ∨ ((97 : Int) ≤ c ∧ (122 : Int) < c ∧ 0 < k) ∨ ((c : Int) < 97 ∧ ¬ 0 < k) ∨ ((c : Int) < 97 ∧ 0 < k ∧ (c : Int) < 48) ∨ ((c : Int) < 97 ∧ 0 < k ∧ (48 : Int) ≤ c ∧ (57 : Int) < c)) := by omega
    rcases hq with hq | hq
    · have hI := HI2.out
      rw [show letterS k s[k] = true from by simp only [letterS, hc, Bool.or_eq_true, decide_eq_true_eq]; omega, Bool.true_and] at hI
      have HI := Aside0.mk hI
      clear hI HI2
      rcases hq with ⟨g1, g2⟩ | ⟨g1, g2, g3, g4⟩
      all_goals
       try have d1 : decide ((97 : Int) ≤ c) = false := decide_eq_false (by omega)
       try have d2 : decide ((c : Int) ≤ 122) = false := decide_eq_false (by omega)
       try have d3 : decide ((48 : Int) ≤ c) = false := decide_eq_false (by omega)
       try have d4 : decide ((c : Int) ≤ 57) = false := decide_eq_false (by omega)
       go_wp2
       go_roundw
       case rel => exact ⟨k + 1, by go_num, by omega, HI, trivial⟩
       case measure => simp [intOf]; omega
    · have hI := HI2.out
      rw [show letterS k s[k] = false from by simp only [letterS, hc, Bool.or_eq_false_iff, decide_eq_false_iff_not]; omega, Bool.false_and, Bool.false_and] at hI
      have HI := Aside0.mk hI
      clear hI HI2
      rcases hq with ⟨g1, g2, g3⟩ | ⟨g1, g2, g3⟩ | ⟨g1, g2⟩ | ⟨g1, g2, g3⟩ | ⟨g1, g2, g3, g4⟩
      all_goals
       try have d1 : decide ((97 : Int) ≤ c) = false := decide_eq_false (by omega)
       try have d2 : decide ((c : Int) ≤ 122) = false := decide_eq_false (by omega)
       try have d3 : decide ((48 : Int) ≤ c) = false := decide_eq_false (by omega)
       try have d4 : decide ((c : Int) ≤ 57) = false := decide_eq_false (by omega)
       go_wp2
       go_ret
       exact ⟨by rw [← HI.out]; rfl, Below.refl _ _⟩
  · have e : k = s.size := by omega
    have hI := HI.out
    rw [List.drop_of_length_le (by rw [toList_length]; omega), lettersS, Bool.true_and] at hI
    have HI2 := Aside0.mk hI
    clear hI HI
    by_cases g1 : (1 : Int) ≤ s.size
    · by_cases g2 : (s.size : Int) ≤ 12
      · go_wp2_with fail
        refine (contains_any _ ownL 6 6 s _ HO.out (Nat.le_refl _)).mono ?_
        rintro e w2 ⟨rfl, hb⟩
        have HB := Aside0.mk hb
        have hI := HI2.out
        rw [decide_eq_true (by omega), Bool.true_and] at hI
        have HI := Aside0.mk hI
        clear hI HI2 hb
        go_wp2
        go_ret
        exact ⟨by rw [← HI.out]; rfl, HB.out⟩
      · have hI := HI2.out
        rw [decide_eq_false (by omega), Bool.false_and] at hI
        have HI := Aside0.mk hI
        clear hI HI2
        go_wp2
        go_ret
        exact ⟨by rw [← HI.out]; rfl, Below.refl _ _⟩
    · have hI := HI2.out
      rw [decide_eq_false (by omega), Bool.false_and] at hI
      have HI := Aside0.mk hI
      clear hI HI2
      go_wp2
      go_ret
      exact ⟨by rw [← HI.out]; rfl, Below.refl _ _⟩
end Go.Proofs.YthdfmbmbjpmlaaaGreatDoor.Rn
end
section
set_option linter.unusedVariables false
set_option linter.unusedSimpArgs false
namespace Go.Proofs.YthdfmbmbjpmlaaaGreatDoor.Rn
open Go Go.RowKit Go.Proofs.YthdfmbmbjpmlaaaGreatDoorW.PrintWords Go.Proofs.YthdfmbmbjpmlaaaGreatDoorW.PrintLast Go.Proofs.YthdfmbmbjpmlaaaGreatDoorW.PrintMore
theorem row_new {α : Type} {k : Kd α} {W : World} {b : Nat} {cs : Array Value} {t : TypeId} {xs : List α} (hb : W.heap[b]? = some (.cells cs t (0, 0))) (hm : xs.length ≤ 9223372036854775807)
 (h : ∀ j x, xs[j]? = some x → ∃ c, c.length = k.sz ∧ k.K W x c ∧ ∀ i u, c[i]? = some u → cs[j * k.sz + i]? = some u) : k.C W (some ⟨b, 0, none⟩) xs.length xs :=
 ⟨rfl, hm, fun _ => ⟨⟨b, 0, none⟩, rfl, fun j x hx => by
  obtain ⟨c, h1, h2, h3⟩ := h j x hx
  refine ⟨c, h1, h2, fun i u hu => ?_⟩
  rw [add_at]
  have := blk_cell hb (j * k.sz + i)
  rw [Nat.zero_add]
  exact this.trans (h3 i u hu)⟩⟩
theorem one_any (a : Int) (w : World) :
 Calls Tryz.prog 42 #[.int .i32 a] w fun e w' => ∃ g c1 A2 c2 X, e = .returned (.agg #[.int .i64 2, .slice (some ⟨g, 0, none⟩) 1 c1, .slice A2 0 c2]) ∧ 1 ≤ c1 ∧ Kd.F k80 w' (fun k => k = g) (some ⟨g, 0, none⟩) 1 [⟨a, a⟩] ∧ w'.heap[g]? = some (.cells X 80 (0, 0)) ∧ k38.C w' A2 0 [] ∧ w.heap.size ≤ g ∧ g < w'.heap.size ∧ Below w.heap.size w w' := by
 refine (gobolaw6_One.calls a 2 [⟨a, a⟩] [] w rfl).mono ?_
 rintro e w' ⟨v1, v2, rfl, h1, h2, hb⟩
 obtain ⟨A2, c2, rfl⟩ := Kd.R_slice h2
 obtain ⟨g, c1, rfl, hg, hg2, X, hX⟩ := Kd.R_form h1 Nat.one_pos
 refine ⟨g, c1, A2, c2, X, rfl, (Kd.R_reads' h1).2.1, Kd.F_mono (Kd.R_F (Kd.R_tight rfl h1)) (fun k hk => by simpa [Value.ownBlock] using hk), hX, (Kd.R_reads' h2).2.2, hg, hg2, hb⟩
theorem hall3 {P : Program} {ops : Array Oper} {md : Region.Mode} {Q : Exit → Act → World → Prop} {S : World → Prop} {i j k : Nat} {o u t : Oper} {fuel : Nat} {listed : Array Bool} {a : Act} {w : World} (hr : Region.ready md ops listed = [i, j, k]) (hi : ops[i]? = some o) (hj : ops[j]? = some u) (hk : ops[k]? = some t)
 (h1 : ∀ K : Act → World → Prop, (∀ a' w', S w' → wpAnyH P md ops Q S fuel (listed.setIfInBounds i true) a' w' → K a' w') → if Region.wanted o (yielded ops a.tmps) = true then o.wp P a w K Q else K (a.put o.dst undef) w)
 (h2 : ∀ K : Act → World → Prop, (∀ a' w', S w' → wpAnyH P md ops Q S fuel (listed.setIfInBounds j true) a' w' → K a' w') → if Region.wanted u (yielded ops a.tmps) = true then u.wp P a w K Q else K (a.put u.dst undef) w)
 (h3 : ∀ K : Act → World → Prop, (∀ a' w', S w' → wpAnyH P md ops Q S fuel (listed.setIfInBounds k true) a' w' → K a' w') → if Region.wanted t (yielded ops a.tmps) = true then t.wp P a w K Q else K (a.put t.dst undef) w) : wpAnyH P md ops Q S (fuel + 1) listed a w := by
 refine wpAnyH_all hr (by simp) (fun m hm => ?_)
 have fin : ∀ (o : Oper), ops[m]? = some o → (∀ K : Act → World → Prop, (∀ a' w', S w' → wpAnyH P md ops Q S fuel (listed.setIfInBounds m true) a' w' → K a' w') → if Region.wanted o (yielded ops a.tmps) = true then o.wp P a w K Q else K (a.put o.dst undef) w) → wpOp P ops Q m (fun a' w' => S w' ∧ wpAnyH P md ops Q S fuel (listed.setIfInBounds m true) a' w') a w := by
  intro o ho h
  have h2 := h (fun a' w' => S w' ∧ wpAnyH P md ops Q S fuel (listed.setIfInBounds m true) a' w') (fun a' w' hs hh => ⟨hs, hh⟩)
  unfold wpOp
  simp only [ho]
  by_cases hw : Region.wanted o (yielded ops a.tmps) = true
  · rw [if_pos hw] at h2 ⊢
    exact .inl h2
  · rw [if_neg hw] at h2 ⊢
    exact h2
 rcases List.mem_cons.1 hm with rfl | hm
 · exact fin o hi h1
 · rcases List.mem_cons.1 hm with rfl | hm
   · exact fin u hj h2
   · obtain rfl := List.mem_singleton.1 hm
     exact fin t hk h3
theorem re_none {W W' : World} {A : Option Addr} (h : k38.C W A 0 []) : k38.C W' A 0 [] := ⟨rfl, by decide, fun h0 => absurd h0 (by decide)⟩
def oneT (a : Int) : Re := ⟨2, [⟨a, a⟩], []⟩
def madeT : List Tok := [⟨⟨#[97]⟩, 0, 1, oneT 97⟩, ⟨⟨#[98]⟩, 0, 2, ⟨2, [⟨10, 10⟩, ⟨98, 98⟩], []⟩⟩, ⟨⟨#[111]⟩, 1, 3, oneT 99⟩, ⟨⟨#[99]⟩, 2, 4, oneT 100⟩]
theorem range_new {W : World} {g : Nat} (h4 : W.heap[g]? = some (.cells #[.int .i32 10, .int .i32 10, .int .i32 98, .int .i32 98] 80 (0, 0))) : Kd.F k80 W (fun k => k = g) (some ⟨g, 0, none⟩) 2 [⟨10, 10⟩, ⟨98, 98⟩] := fun W' hW => by
 have h5 := (hW g rfl (blk_lt h4)).trans h4
 refine row_new h5 (by decide) (fun j x hx => ?_)
 match j, hx with
 | 0, hx =>
  obtain rfl := Option.some.inj hx
  refine ⟨_, rfl, k80_mk W' _, fun i u hu => ?_⟩
  match i, hu with
  | 0, hu => exact hu
  | 1, hu => exact hu
  | i + 2, hu => simp at hu
 | 1, hx =>
  obtain rfl := Option.some.inj hx
  refine ⟨_, rfl, k80_mk W' _, fun i u hu => ?_⟩
  match i, hu with
  | 0, hu => exact hu
  | 1, hu => exact hu
  | i + 2, hu => simp at hu
 | j + 2, hx => simp at hx
theorem re_noneF {W : World} {ok : Nat → Prop} {A : Option Addr} (h : ∀ W' : World, k38.C W' A 0 []) : Kd.F k38 W ok A 0 [] := fun W' _ => h W'
theorem ne_type {W : World} {a b : Nat} {X Y : Array Value} {t u : TypeId} (ha : W.heap[a]? = some (.cells X t (0, 0))) (hb : W.heap[b]? = some (.cells Y u (0, 0))) (h : t ≠ u) : a ≠ b := fun e => by
 rw [e, hb] at ha
 injection ha with ha
 injection ha with h1 h2
 exact h h2.symm
theorem f_put {W : World} {r : Nat} {g n : Nat} {xs : List S80} (hg : r < g) (p : Addr) {m c : Nat} (h : Kd.F k80 W (fun k => k = g) (some ⟨g, 0, none⟩) n xs) :
 Kd.F k80 ((W.setCell ⟨r, 0, none⟩ (.slice (some p) m c)).setCell ⟨r, 1, none⟩ (.slice none 0 0)) (fun k => k = g) (some ⟨g, 0, none⟩) n xs :=
 Kd.F_far (p := ⟨r, 1, none⟩) (Kd.F_far (p := ⟨r, 0, none⟩) h (fun k hk => by rw [hk]; exact Nat.ne_of_gt hg) _) (fun k hk => by rw [hk]; exact Nat.ne_of_gt hg) _
theorem made_row {W : World} {base gR g4 a0 a1 b1 : Nat} {E0 A2 B2 : Option Addr} {c0 e0 c1 c2 d1 d2 : Nat}
 (hR : W.heap[gR]? = some (.cells #[.string ⟨#[97]⟩, .int .i64 0, .int .i64 1, .int .i64 2, .slice (some ⟨a0, 0, none⟩) 1 c0, .slice E0 0 e0, .string ⟨#[98]⟩, .int .i64 0, .int .i64 2, .int .i64 2, .slice (some ⟨g4, 0, none⟩) 2 2, .slice none 0 0, .string ⟨#[111]⟩, .int .i64 1, .int .i64 3, .int .i64 2, .slice (some ⟨a1, 0, none⟩) 1 c1, .slice A2 0 c2, .string ⟨#[99]⟩, .int .i64 2, .int .i64 4, .int .i64 2, .slice (some ⟨b1, 0, none⟩) 1 d1, .slice B2 0 d2] 40 (0, 0)))
 (hr4 : Kd.F k80 W (fun k => k = g4) (some ⟨g4, 0, none⟩) 2 [⟨10, 10⟩, ⟨98, 98⟩])
 (k0 : 1 ≤ c0) (hA0 : Kd.F k80 W (fun k => k = a0) (some ⟨a0, 0, none⟩) 1 [⟨97, 97⟩]) (hE0 : ∀ W' : World, k38.C W' E0 0 [])
 (k1 : 1 ≤ c1) (hA1 : Kd.F k80 W (fun k => k = a1) (some ⟨a1, 0, none⟩) 1 [⟨99, 99⟩]) (hA2 : ∀ W' : World, k38.C W' A2 0 [])
 (k2 : 1 ≤ d1) (hB1 : Kd.F k80 W (fun k => k = b1) (some ⟨b1, 0, none⟩) 1 [⟨100, 100⟩]) (hB2 : ∀ W' : World, k38.C W' B2 0 [])
 (hb : base ≤ gR) (hb0 : base ≤ a0 ∧ a0 ≠ gR) (hb1 : base ≤ a1 ∧ a1 ≠ gR) (hb2 : base ≤ b1 ∧ b1 ≠ gR) (hb4 : base ≤ g4 ∧ g4 ≠ gR) :
 Kd.N kTok 40 W base (fun k => base ≤ k) (.slice (some ⟨gR, 0, none⟩) 4 4) madeT := by
 have hall : ∀ u ∈ ([.string ⟨#[97]⟩, .int .i64 0, .int .i64 1, .int .i64 2, .slice (some ⟨a0, 0, none⟩) 1 c0, .slice E0 0 e0, .string ⟨#[98]⟩, .int .i64 0, .int .i64 2, .int .i64 2, .slice (some ⟨g4, 0, none⟩) 2 2, .slice none 0 0, .string ⟨#[111]⟩, .int .i64 1, .int .i64 3, .int .i64 2, .slice (some ⟨a1, 0, none⟩) 1 c1, .slice A2 0 c2, .string ⟨#[99]⟩, .int .i64 2, .int .i64 4, .int .i64 2, .slice (some ⟨b1, 0, none⟩) 1 d1, .slice B2 0 d2] : List Value), u.oneCell' = true := by simp [Value.oneCell']
 have ow : (Value.slice (some ⟨gR, 0, none⟩) 4 4).ownBlock = some gR := rfl
 refine ⟨fun k hk => by rw [ow] at hk; injection hk with hk; omega, [[.string ⟨#[97]⟩, .int .i64 0, .int .i64 1, .int .i64 2, .slice (some ⟨a0, 0, none⟩) 1 c0, .slice E0 0 e0], [.string ⟨#[98]⟩, .int .i64 0, .int .i64 2, .int .i64 2, .slice (some ⟨g4, 0, none⟩) 2 2, .slice none 0 0], [.string ⟨#[111]⟩, .int .i64 1, .int .i64 3, .int .i64 2, .slice (some ⟨a1, 0, none⟩) 1 c1, .slice A2 0 c2], [.string ⟨#[99]⟩, .int .i64 2, .int .i64 4, .int .i64 2, .slice (some ⟨b1, 0, none⟩) 1 d1, .slice B2 0 d2]], rfl, ⟨fun k hk => hk.symm, [.string ⟨#[97]⟩, .int .i64 0, .int .i64 1, .int .i64 2, .slice (some ⟨a0, 0, none⟩) 1 c0, .slice E0 0 e0, .string ⟨#[98]⟩, .int .i64 0, .int .i64 2, .int .i64 2, .slice (some ⟨g4, 0, none⟩) 2 2, .slice none 0 0, .string ⟨#[111]⟩, .int .i64 1, .int .i64 3, .int .i64 2, .slice (some ⟨a1, 0, none⟩) 1 c1, .slice A2 0 c2, .string ⟨#[99]⟩, .int .i64 2, .int .i64 4, .int .i64 2, .slice (some ⟨b1, 0, none⟩) 1 d1, .slice B2 0 d2], ⟨rfl, Or.inr ⟨gR, 4, _, rfl, hb, hR, Nat.le_refl _, by unfold maxLen; omega, rfl, rfl⟩⟩, rfl, ?_⟩, ?_⟩
 · intro j p hp
   match j, hp with
   | 0, hp => obtain rfl := Option.some.inj hp; exact ⟨rfl, rfl, fun u hu => hall u (List.mem_of_mem_drop (List.mem_of_mem_take hu))⟩
   | 1, hp => obtain rfl := Option.some.inj hp; exact ⟨rfl, rfl, fun u hu => hall u (List.mem_of_mem_drop (List.mem_of_mem_take hu))⟩
   | 2, hp => obtain rfl := Option.some.inj hp; exact ⟨rfl, rfl, fun u hu => hall u (List.mem_of_mem_drop (List.mem_of_mem_take hu))⟩
   | 3, hp => obtain rfl := Option.some.inj hp; exact ⟨rfl, rfl, fun u hu => hall u (List.mem_of_mem_drop (List.mem_of_mem_take hu))⟩
   | j + 4, hp => simp at hp
 · have mono : ∀ {g : Nat}, base ≤ g ∧ g ≠ gR → ∀ k, k = g → (fun k => base ≤ k ∧ some k ≠ (Value.slice (some ⟨gR, 0, none⟩) 4 4).ownBlock) k := by
    rintro g ⟨h1, h2⟩ k rfl
    exact ⟨h1, by rw [ow]; simpa using h2⟩
   intro j x c hx hc
   match j, hx, hc with
   | 0, hx, hc =>
    obtain rfl := Option.some.inj hx
    obtain rfl := Option.some.inj hc
    exact k40_mkF W _ ⟨⟨#[97]⟩, 0, 1, oneT 97⟩ k0 (Kd.F_mono hA0 (mono hb0)) (Nat.zero_le e0) (re_noneF hE0)
   | 1, hx, hc =>
    obtain rfl := Option.some.inj hx
    obtain rfl := Option.some.inj hc
    exact k40_mkF W _ ⟨⟨#[98]⟩, 0, 2, ⟨2, [⟨10, 10⟩, ⟨98, 98⟩], []⟩⟩ (show 2 ≤ 2 from Nat.le_refl _) (Kd.F_mono hr4 (mono hb4)) (Nat.zero_le 0) (re_noneF (fun W' => (show k38.C W' none 0 [] from ⟨rfl, by decide, fun h => absurd h (by decide)⟩)))
   | 2, hx, hc =>
    obtain rfl := Option.some.inj hx
    obtain rfl := Option.some.inj hc
    exact k40_mkF W _ ⟨⟨#[111]⟩, 1, 3, oneT 99⟩ k1 (Kd.F_mono hA1 (mono hb1)) (Nat.zero_le c2) (re_noneF hA2)
   | 3, hx, hc =>
    obtain rfl := Option.some.inj hx
    obtain rfl := Option.some.inj hc
    exact k40_mkF W _ ⟨⟨#[99]⟩, 2, 4, oneT 100⟩ k2 (Kd.F_mono hB1 (mono hb2)) (Nat.zero_le d2) (re_noneF hB2)
   | j + 4, hx, hc => simp [madeT] at hx
end Go.Proofs.YthdfmbmbjpmlaaaGreatDoor.Rn
end
section
set_option linter.unusedVariables false
set_option linter.unusedSimpArgs false
namespace Go.Proofs.YthdfmbmbjpmlaaaGreatDoor.Rn
open Go Go.RowKit Go.Proofs.YthdfmbmbjpmlaaaGreatDoorW.PrintWords Go.Proofs.YthdfmbmbjpmlaaaGreatDoorW.PrintLast Go.Proofs.YthdfmbmbjpmlaaaGreatDoorW.PrintMore
theorem n_empty {α : Type} (k : Kd α) (e : TypeId) {W : World} {b base : Nat} {ok : Nat → Prop} {t : TypeId} (h : W.heap[b]? = some (.cells #[] t (0, 0))) (he : e = t) (hb : base ≤ b) (hok : ok b) :
 Kd.N k e W base ok (.slice (some ⟨b, 0, none⟩) 0 0) [] := by
 subst he
 refine ⟨fun q hq => ?_, [], rfl, ⟨fun q hq => hq.symm, [], ⟨by simp, Or.inr ⟨b, 0, #[], rfl, hb, h, Nat.le_refl _, by unfold maxLen; omega, by simp, by simp⟩⟩, Reps.none _ _⟩, fun j x c hx _ => by simp at hx⟩
 have hq : some b = some q := hq
 injection hq with hq
 exact hq ▸ hok
theorem f_one {α : Type} {k : Kd α} {W : World} {b : Nat} {ok : Nat → Prop} {x : α} {c : List Value} {t : TypeId} {cs : Array Value} (h : W.heap[b]? = some (.cells cs t (0, 0))) (hcs : cs = c.toArray) (hK : Kd.FK k W ok x c) :
 Kd.F k W (fun q => q = b ∨ ok q) (some ⟨b, 0, none⟩) 1 [x] := fun W' hW => by
 have h2 := (hW b (Or.inl rfl) (blk_lt h)).trans h
 have hK2 := hK W' (fun q hq => hW q (Or.inr hq))
 refine row_new h2 (show 1 ≤ _ from by omega) (fun j y hy => ?_)
 match j, hy with
 | 0, hy =>
  obtain rfl := Option.some.inj hy
  refine ⟨c, k.K_len hK2, hK2, fun i u hu => ?_⟩
  rw [hcs]
  simpa using hu
 | j + 1, hy => simp at hy
end Go.Proofs.YthdfmbmbjpmlaaaGreatDoor.Rn
end
section
set_option linter.unusedVariables false
set_option linter.unusedSimpArgs false
namespace Go.Proofs.YthdfmbmbjpmlaaaGreatDoor.Rn
open Go Go.RowKit Go.Proofs.YthdfmbmbjpmlaaaGreatDoorW.PrintWords Go.Proofs.YthdfmbmbjpmlaaaGreatDoorW.PrintLast Go.Proofs.YthdfmbmbjpmlaaaGreatDoorW.PrintMore
abbrev RE := S38
mutual
/-- how many nodes -/
def sizeR : RE → Nat
 | ⟨_, _, l⟩ => sizeRL l + 1
def sizeRL : List RE → Nat
 | [] => 0
 | x :: l => sizeR x + sizeRL l
end
mutual
/-- short sets -/
def setOk : RE → Prop
 | ⟨_, s, l⟩ => s.length ≤ 30 ∧ setOkL l
def setOkL : List RE → Prop
 | [] => True
 | x :: l => setOk x ∧ setOkL l
end
def setP (_ : Pt) : Prop := True
def setPL (_ : List Pt) : Prop := True
theorem setOkL_at {l : List RE} {m : Nat} {x : RE} (h : l[m]? = some x) (h1 : setOkL (l.take m)) (h2 : setOk x) : setOkL (l.take (m + 1)) := by
 have key : ∀ a : List RE, setOkL a → setOkL (a ++ [x]) := fun a ha => by
  induction a with
  | nil => exact ⟨h2, trivial⟩
  | cons y a ih => exact ⟨ha.1, ih ha.2⟩
 rw [List.take_add_one, h]
 exact key _ h1
theorem setPL_at {l : List Pt} {m : Nat} {x : Pt} (h : l[m]? = some x) (h1 : setPL (l.take m)) (h2 : setP x) : setPL (l.take (m + 1)) := trivial
theorem setOkL_mem : ∀ {l : List RE}, setOkL l → ∀ x, x ∈ l → setOk x
 | y :: l, h, x, hx => by
  rcases List.mem_cons.1 hx with rfl | hx
  · exact h.1
  · exact setOkL_mem h.2 x hx
theorem sizeRL_at {l : List RE} {m : Nat} {x : RE} (h : l[m]? = some x) : sizeRL (l.take (m + 1)) = sizeRL (l.take m) + sizeR x := by
 have key : ∀ a b : List RE, sizeRL (a ++ b) = sizeRL a + sizeRL b := fun a b => by
  induction a with
  | nil => simp [sizeRL]
  | cons y a ih => simp only [List.cons_append, sizeRL, ih]; omega
 rw [List.take_add_one, h, key]
 simp [sizeRL]
theorem sizePL_at {l : List Pt} {m : Nat} {x : Pt} (h : l[m]? = some x) : sizeL (l.take (m + 1)) = sizeL (l.take m) + sizeP x := by
 have key : ∀ a b : List Pt, sizeL (a ++ b) = sizeL a + sizeL b := fun a b => by
  induction a with
  | nil => simp [sizeL]
  | cons y a ih => simp only [List.cons_append, sizeL, ih]; omega
 rw [List.take_add_one, h, key]
 simp [sizeL]
def pszC (x : Pt) : Prop := ∀ (deep : Int) (w0 W : World) (cs : List Value), 0 ≤ deep → deep ≤ 17 → Below w0.heap.size w0 W → k47.K w0 x cs →
    Calls Tryz.prog 16 #[.agg cs.toArray, .int .i64 deep] W fun e W' => ∃ n : Int, e = .returned (.int .i64 n) ∧ 1 ≤ n ∧ n ≤ 201 ∧ (n ≤ 200 → (sizeP x : Int) = n ∧ setP x) ∧ Below W.heap.size W W'
set_option maxHeartbeats 40000000 in
set_option maxRecDepth 100000 in
theorem psz_go (x : Pt) (hx : ∀ y, y ∈ x.f3 → pszC y) : pszC x := fun deep w0 W cs hd0 hd17 hB hK0 => by
 obtain ⟨A1, c1, A2, c2, A3, c3, rfl, l1, C1, l2, C2, l3, C3⟩ := k47_open hK0
 have HX := Aside0.mk hx
 have HC3 := Aside0.mk (Kd.C_below C3 hB)
 have hl3 : x.f3.length ≤ 9223372036854775807 := C3.2.1
 have HSZ : Aside0 ((sizeP x : Int) = 1 + sizeL x.f3) := ⟨by cases x; simp only [sizeP]; omega⟩
 have HSO : Aside0 (setPL x.f3 → setP x) := ⟨fun _ => trivial⟩
 clear hx hK0 hB
 go_enter Tryz.func16, Tryz.ntmps16
 go_upto_region 1 with (fail)
 obtain ⟨w1, hw1⟩ : ∃ z, W.alloc (.cells #[.int .i64 x.f0, .slice A1 x.f1.length c1, .slice A2 x.f2.length c2, .slice A3 x.f3.length c3] 47) = z := ⟨_, rfl⟩
 obtain ⟨bg, hbg⟩ : ∃ z, W.heap.size = z := ⟨_, rfl⟩
 have HB0 : Aside0 (Below W.heap.size W w1) := ⟨hw1 ▸ below1 _ _⟩
 have HKP : Aside0 (w1.heap[bg]? = some (.cells #[.int .i64 x.f0, .slice A1 x.f1.length c1, .slice A2 x.f2.length c2, .slice A3 x.f3.length c3] 47 (0, 0))) := ⟨by rw [← hw1, ← hbg]; exact blk_new _ _⟩
 rw [hw1, hbg]
 have HBG := Aside0.mk hbg
 clear hw1 hbg
 have y1 : w1.cell? ⟨bg, 1, none⟩ = some (.slice A1 x.f1.length c1) := (blk_cell HKP.out 1).trans rfl
 have y2 : w1.cell? ⟨bg, 2, none⟩ = some (.slice A2 x.f2.length c2) := (blk_cell HKP.out 2).trans rfl
 by_cases hdp : 16 < deep
 · have d1 : decide (16 < deep) = true := decide_eq_true hdp
   go_wp2
   go_ret
   exact ⟨201, rfl, by omega, by omega, fun h => by omega, HB0.out⟩
 have d1 : decide (16 < deep) = false := decide_eq_false hdp
 by_cases hn0 : 20 < x.f1.length
 · have d2 : decide (20 < x.f1.length) = true := decide_eq_true hn0
   have d2z : decide (20 < (x.f1.length : Int)) = true := decide_eq_true (by omega)
   go_wp2
   go_ret
   exact ⟨201, rfl, by omega, by omega, fun h => by omega, HB0.out⟩
 have d2 : decide (20 < x.f1.length) = false := decide_eq_false hn0
 have d2z : decide (20 < (x.f1.length : Int)) = false := decide_eq_false (by omega)
 by_cases hn1 : 20 < x.f2.length
 · have d3 : decide (20 < x.f2.length) = true := decide_eq_true hn1
   have d3z : decide (20 < (x.f2.length : Int)) = true := decide_eq_true (by omega)
   go_wp2
   go_ret
   exact ⟨201, rfl, by omega, by omega, fun h => by omega, HB0.out⟩
 have d3 : decide (20 < x.f2.length) = false := decide_eq_false hn1
 have d3z : decide (20 < (x.f2.length : Int)) = false := decide_eq_false (by omega)
 go_wp2_with fail
 clear d1 d2 d2z d3 d3z
 go_loopw [5, 6] (fun v i w => ∃ (m n : Nat), v = .int .i64 (n : Int) ∧ i = .int .i64 (m : Int) ∧ m ≤ x.f3.length ∧ 1 ≤ n ∧ n ≤ 401 ∧ Aside0 (Below w1.heap.size w1 w ∧ (n ≤ 200 → n = 1 + sizeL (x.f3.take m) ∧ setPL (x.f3.take m))) ∧ (200 < n → Aside0 (n ≠ 0))) (fun _ i _ => x.f3.length - (intOf i).toNat)
 case atStart => exact ⟨0, 1, rfl, rfl, Nat.zero_le _, Nat.le_refl _, by omega, ⟨⟨Below.refl _ _, fun _ => ⟨by simp [sizeL], trivial⟩⟩⟩, fun h => ⟨by omega⟩⟩
 case round =>
  obtain ⟨m, n, rfl, rfl, hm, hn1, hn4, HS, _⟩ := hrel
  obtain ⟨w4, hw4⟩ : ∃ z, wr = z := ⟨_, rfl⟩
  rw [hw4] at HS ⊢
  clear hw4
  have HB4 := Aside0.mk (join_below HB0.out HS.out.1)
  have y3 : w4.cell? ⟨bg, 3, none⟩ = some (.slice A3 x.f3.length c3) := (blk_cell (blk_below HKP.out HS.out.1) 3).trans rfl
  by_cases hlt : m < x.f3.length
  · have e1 : decide (m < x.f3.length) = true := decide_eq_true hlt
    by_cases hn : n ≤ 200
    · have e2 : decide (n ≤ 200) = true := decide_eq_true hn
      have e2z : decide ((n : Int) ≤ 200) = true := decide_eq_true (by omega)
      have hil : (m : Int) < x.f3.length := by omega
      obtain ⟨g, o, hA, _, hcell⟩ := row_cells HC3.out (by omega) (by decide)
      subst hA
      obtain ⟨y, hy⟩ : ∃ y, x.f3[m]? = some y := ⟨_, List.getElem?_eq_getElem hlt⟩
      obtain ⟨cs, _, hK, hcc⟩ := hcell m y hy
      have HKY := Aside0.mk hK
      obtain ⟨B1, d1, B2, d2, B3, d3, rfl, _, _, _, _, _, _⟩ := k47_open hK
      have z0 := cell_after HB4.out (hcc 0 (.int .i64 y.f0) rfl)
      have z1 := cell_after HB4.out (hcc 1 (.slice B1 y.f1.length d1) rfl)
      have z2 := cell_after HB4.out (hcc 2 (.slice B2 y.f2.length d2) rfl)
      have z3 := cell_after HB4.out (hcc 3 (.slice B3 y.f3.length d3) rfl)
      simp only [Nat.add_zero, show k47.sz = 4 from rfl] at z0 z1 z2 z3
      have HY := Aside0.mk hy
      have HLT := Aside0.mk hlt
      clear hcell hcc hK hy hlt
      have hcall := HX.out y (List.mem_of_getElem? HY.out) (deep + 1) W w4 _ (by omega) (by omega) HB4.out HKY.out
      have HCA := Aside0.mk hcall
      have hd16 : deep ≤ 16 := by omega
      clear hcall
      go_wp2_with fail
      refine HCA.out.mono ?_
      rintro e w5 ⟨t, rfl, ht1, ht2, ht3, hd⟩
      have HB5 := Aside0.mk hd
      have HT3 := Aside0.mk ht3
      obtain ⟨tn, htn⟩ : ∃ tn : Nat, t = (tn : Int) := ⟨t.toNat, by omega⟩
      subst htn
      have H64 : Aside0 (wrap64 ((n : Int) + (tn : Int)) = ((n + tn : Nat) : Int)) := ⟨by unfold wrap64; omega⟩
      have hn8 : (n : Int) ≤ 401 := by omega
      have ht8 : (tn : Int) ≤ 201 := by omega
      clear hd ht3 z0 z1 z2 z3 y3 e1 e2 e2z
      go_wp2
      go_roundw
      case rel => exact ⟨m + 1, n + tn, by first | rfl | (rw [H64.out]; done) | go_num | (simp; done), by go_num, HLT.out, by omega, by omega, ⟨⟨join_below HS.out.1 HB5.out, fun hle => by have h1 := HS.out.2 hn; have h2 := HT3.out (by omega); exact ⟨by rw [sizePL_at HY.out]; omega, setPL_at HY.out h1.2 h2.2⟩⟩⟩, fun _ => ⟨by omega⟩⟩
      case measure => have := HLT.out; simp [intOf]; omega
    · have e2 : decide (n ≤ 200) = false := decide_eq_false hn
      have e2z : decide ((n : Int) ≤ 200) = false := decide_eq_false (by omega)
      go_wp2
      all_goals
       go_ret
       exact ⟨_, rfl, by omega, by omega, fun h => by omega, HB4.out⟩
  · have e1 : decide (m < x.f3.length) = false := decide_eq_false hlt
    have HF : Aside0 (n ≤ 200 → (sizeP x : Int) = n ∧ setP x) := ⟨fun h => by
     have h1 := HS.out.2 h
     rw [List.take_of_length_le (by omega)] at h1
     refine ⟨by rw [HSZ.out]; omega, ?_⟩
     exact HSO.out h1.2⟩
    clear hlt
    go_wp2
    all_goals
     go_ret
     exact ⟨_, rfl, by omega, by omega, fun h => by first | omega | exact HF.out (by omega), HB4.out⟩
theorem psz_all : ∀ (N : Nat) (x : Pt), SizeOf.sizeOf x < N → pszC x
 | 0, x, h => absurd h (Nat.not_lt_zero _)
 | N + 1, x, h => psz_go x (fun y hy => psz_all N y (by
     have h1 := List.sizeOf_lt_of_mem hy
     have h2 : SizeOf.sizeOf x.f3 < SizeOf.sizeOf x := by
      cases x
      simp
      omega
     omega))
theorem psz_any (x : Pt) : pszC x := psz_all (SizeOf.sizeOf x + 1) x (Nat.lt_succ_self _)
def rszC (x : RE) : Prop := ∀ (deep : Int) (w0 W : World) (cs : List Value), 0 ≤ deep → deep ≤ 17 → Below w0.heap.size w0 W → k38.K w0 x cs →
    Calls Tryz.prog 41 #[.agg cs.toArray, .int .i64 deep] W fun e W' => ∃ n : Int, e = .returned (.int .i64 n) ∧ 1 ≤ n ∧ n ≤ 201 ∧ (n ≤ 200 → (sizeR x : Int) = n ∧ setOk x) ∧ Below W.heap.size W W'
set_option maxHeartbeats 40000000 in
set_option maxRecDepth 100000 in
theorem rsz_go (x : RE) (hx : ∀ y, y ∈ x.f2 → rszC y) : rszC x := fun deep w0 W cs hd0 hd17 hB hK0 => by
 obtain ⟨A1, c1, A3, c3, rfl, l1, C1, l3, C3⟩ := k38_open hK0
 have HX := Aside0.mk hx
 have HC3 := Aside0.mk (Kd.C_below C3 hB)
 have hl3 : x.f2.length ≤ 9223372036854775807 := C3.2.1
 have HSZ : Aside0 ((sizeR x : Int) = 1 + sizeRL x.f2) := ⟨by cases x; simp only [sizeR]; omega⟩
 have HSO : Aside0 (x.f1.length ≤ 30 → setOkL x.f2 → setOk x) := ⟨by cases x; exact fun h1 h2 => ⟨h1, h2⟩⟩
 clear hx hK0 hB
 go_enter Tryz.func41, Tryz.ntmps41
 go_upto_region 1 with (fail)
 obtain ⟨w1, hw1⟩ : ∃ z, W.alloc (.cells #[.int .i64 x.f0, .slice A1 x.f1.length c1, .slice A3 x.f2.length c3] 38) = z := ⟨_, rfl⟩
 obtain ⟨bg, hbg⟩ : ∃ z, W.heap.size = z := ⟨_, rfl⟩
 have HB0 : Aside0 (Below W.heap.size W w1) := ⟨hw1 ▸ below1 _ _⟩
 have HKP : Aside0 (w1.heap[bg]? = some (.cells #[.int .i64 x.f0, .slice A1 x.f1.length c1, .slice A3 x.f2.length c3] 38 (0, 0))) := ⟨by rw [← hw1, ← hbg]; exact blk_new _ _⟩
 rw [hw1, hbg]
 have HBG := Aside0.mk hbg
 clear hw1 hbg
 have y1 : w1.cell? ⟨bg, 1, none⟩ = some (.slice A1 x.f1.length c1) := (blk_cell HKP.out 1).trans rfl
 by_cases hdp : 16 < deep
 · have d1 : decide (16 < deep) = true := decide_eq_true hdp
   go_wp2
   go_ret
   exact ⟨201, rfl, by omega, by omega, fun h => by omega, HB0.out⟩
 have d1 : decide (16 < deep) = false := decide_eq_false hdp
 by_cases hn0 : 30 < x.f1.length
 · have d2 : decide (30 < x.f1.length) = true := decide_eq_true hn0
   have d2z : decide (30 < (x.f1.length : Int)) = true := decide_eq_true (by omega)
   go_wp2
   go_ret
   exact ⟨201, rfl, by omega, by omega, fun h => by omega, HB0.out⟩
 have d2 : decide (30 < x.f1.length) = false := decide_eq_false hn0
 have d2z : decide (30 < (x.f1.length : Int)) = false := decide_eq_false (by omega)
 go_wp2_with fail
 clear d1 d2 d2z
 go_loopw [5, 6] (fun v i w => ∃ (m n : Nat), v = .int .i64 (n : Int) ∧ i = .int .i64 (m : Int) ∧ m ≤ x.f2.length ∧ 1 ≤ n ∧ n ≤ 401 ∧ Aside0 (Below w1.heap.size w1 w ∧ (n ≤ 200 → n = 1 + sizeRL (x.f2.take m) ∧ setOkL (x.f2.take m))) ∧ (200 < n → Aside0 (n ≠ 0))) (fun _ i _ => x.f2.length - (intOf i).toNat)
 case atStart => exact ⟨0, 1, rfl, rfl, Nat.zero_le _, Nat.le_refl _, by omega, ⟨⟨Below.refl _ _, fun _ => ⟨by simp [sizeRL], trivial⟩⟩⟩, fun h => ⟨by omega⟩⟩
 case round =>
  obtain ⟨m, n, rfl, rfl, hm, hn1, hn4, HS, _⟩ := hrel
  obtain ⟨w4, hw4⟩ : ∃ z, wr = z := ⟨_, rfl⟩
  rw [hw4] at HS ⊢
  clear hw4
  have HB4 := Aside0.mk (join_below HB0.out HS.out.1)
  have y3 : w4.cell? ⟨bg, 2, none⟩ = some (.slice A3 x.f2.length c3) := (blk_cell (blk_below HKP.out HS.out.1) 2).trans rfl
  by_cases hlt : m < x.f2.length
  · have e1 : decide (m < x.f2.length) = true := decide_eq_true hlt
    by_cases hn : n ≤ 200
    · have e2 : decide (n ≤ 200) = true := decide_eq_true hn
      have e2z : decide ((n : Int) ≤ 200) = true := decide_eq_true (by omega)
      have hil : (m : Int) < x.f2.length := by omega
      obtain ⟨g, o, hA, _, hcell⟩ := row_cells HC3.out (by omega) (by decide)
      subst hA
      obtain ⟨y, hy⟩ : ∃ y, x.f2[m]? = some y := ⟨_, List.getElem?_eq_getElem hlt⟩
      obtain ⟨cs, _, hK, hcc⟩ := hcell m y hy
      have HKY := Aside0.mk hK
      obtain ⟨B1, d1, B3, d3, rfl, _, _, _, _⟩ := k38_open hK
      have z0 := cell_after HB4.out (hcc 0 (.int .i64 y.f0) rfl)
      have z1 := cell_after HB4.out (hcc 1 (.slice B1 y.f1.length d1) rfl)
      have z2 := cell_after HB4.out (hcc 2 (.slice B3 y.f2.length d3) rfl)
      simp only [Nat.add_zero, show k38.sz = 3 from rfl] at z0 z1 z2
      have HY := Aside0.mk hy
      have HLT := Aside0.mk hlt
      clear hcell hcc hK hy hlt
      have hcall := HX.out y (List.mem_of_getElem? HY.out) (deep + 1) W w4 _ (by omega) (by omega) HB4.out HKY.out
      have HCA := Aside0.mk hcall
      have hd16 : deep ≤ 16 := by omega
      clear hcall
      go_wp2_with fail
      refine HCA.out.mono ?_
      rintro e w5 ⟨t, rfl, ht1, ht2, ht3, hd⟩
      have HB5 := Aside0.mk hd
      have HT3 := Aside0.mk ht3
      obtain ⟨tn, htn⟩ : ∃ tn : Nat, t = (tn : Int) := ⟨t.toNat, by omega⟩
      subst htn
      have H64 : Aside0 (wrap64 ((n : Int) + (tn : Int)) = ((n + tn : Nat) : Int)) := ⟨by unfold wrap64; omega⟩
      have hn8 : (n : Int) ≤ 401 := by omega
      have ht8 : (tn : Int) ≤ 201 := by omega
      clear hd ht3 z0 z1 z2 y3 e1 e2 e2z
      go_wp2
      go_roundw
      case rel => exact ⟨m + 1, n + tn, by first | rfl | (rw [H64.out]; done) | go_num | (simp; done), by go_num, HLT.out, by omega, by omega, ⟨⟨join_below HS.out.1 HB5.out, fun hle => by have h1 := HS.out.2 hn; have h2 := HT3.out (by omega); exact ⟨by rw [sizeRL_at HY.out]; omega, setOkL_at HY.out h1.2 h2.2⟩⟩⟩, fun _ => ⟨by omega⟩⟩
      case measure => have := HLT.out; simp [intOf]; omega
    · have e2 : decide (n ≤ 200) = false := decide_eq_false hn
      have e2z : decide ((n : Int) ≤ 200) = false := decide_eq_false (by omega)
      go_wp2
      all_goals
       go_ret
       exact ⟨_, rfl, by omega, by omega, fun h => by omega, HB4.out⟩
  · have e1 : decide (m < x.f2.length) = false := decide_eq_false hlt
    have HF : Aside0 (n ≤ 200 → (sizeR x : Int) = n ∧ setOk x) := ⟨fun h => by
     have h1 := HS.out.2 h
     rw [List.take_of_length_le (by omega)] at h1
     refine ⟨by rw [HSZ.out]; omega, ?_⟩
     exact HSO.out (by omega) h1.2⟩
    clear hlt
    go_wp2
    all_goals
     go_ret
     exact ⟨_, rfl, by omega, by omega, fun h => by first | omega | exact HF.out (by omega), HB4.out⟩
theorem rsz_all : ∀ (N : Nat) (x : RE), SizeOf.sizeOf x < N → rszC x
 | 0, x, h => absurd h (Nat.not_lt_zero _)
 | N + 1, x, h => rsz_go x (fun y hy => rsz_all N y (by
     have h1 := List.sizeOf_lt_of_mem hy
     have h2 : SizeOf.sizeOf x.f2 < SizeOf.sizeOf x := by
      cases x
      simp
      omega
     omega))
theorem rsz_any (x : RE) : rszC x := rsz_all (SizeOf.sizeOf x + 1) x (Nat.lt_succ_self _)
end Go.Proofs.YthdfmbmbjpmlaaaGreatDoor.Rn
end
section
set_option linter.unusedVariables false
set_option linter.unusedSimpArgs false
namespace Go.Proofs.YthdfmbmbjpmlaaaGreatDoor.Rn
open Go Go.RowKit Go.Proofs.YthdfmbmbjpmlaaaGreatDoorW.PrintWords Go.Proofs.YthdfmbmbjpmlaaaGreatDoorW.PrintLast Go.Proofs.YthdfmbmbjpmlaaaGreatDoorW.PrintMore
def FewP (P : Prop) (W : World) (e : Ending) (W' : World) : Prop := ∃ b : Bool, e = .returned (.bool b) ∧ (b = true → P) ∧ Below W.heap.size W W'
set_option maxHeartbeats 4000000 in
set_option maxRecDepth 100000 in
theorem few6_any (x : RE) (w0 W : World) (cs : List Value) (hB : Below w0.heap.size w0 W) (hK0 : k38.K w0 x cs) :
 Calls Tryz.prog 15 #[.agg cs.toArray] W (FewP (sizeR x ≤ 200 ∧ setOk x) W) := by
 have HK := Aside0.mk (And.intro hB hK0)
 obtain ⟨A1, c1, A3, c3, rfl, _, _, _, _⟩ := k38_open hK0
 clear hB hK0
 go_enter Tryz.func15, Tryz.ntmps15
 go_upto_region 1 with (fail)
 obtain ⟨w1, hw1⟩ : ∃ z, W.alloc (.cells #[.int .i64 x.f0, .slice A1 x.f1.length c1, .slice A3 x.f2.length c3] 38) = z := ⟨_, rfl⟩
 have HB0 : Aside0 (Below W.heap.size W w1) := ⟨hw1 ▸ below1 _ _⟩
 have hk : w1.heap[W.heap.size]? = some (.cells #[.int .i64 x.f0, .slice A1 x.f1.length c1, .slice A3 x.f2.length c3] 38 (0, 0)) := by rw [← hw1]; exact blk_new _ _
 have y0 : w1.cell? ⟨W.heap.size, 0, none⟩ = some (.int .i64 x.f0) := (blk_cell hk 0).trans rfl
 have y1 : w1.cell? ⟨W.heap.size, 1, none⟩ = some (.slice A1 x.f1.length c1) := (blk_cell hk 1).trans rfl
 have y2 : w1.cell? ⟨W.heap.size, 2, none⟩ = some (.slice A3 x.f2.length c3) := (blk_cell hk 2).trans rfl
 rw [hw1]
 clear hw1 hk
 go_wp2_with fail
 refine (rsz_any x 1 w0 w1 _ (by omega) (by omega) (join_below HK.out.1 HB0.out) HK.out.2).mono ?_
 rintro e w2 ⟨n, rfl, h1, h2, h3, hb⟩
 have HB2 := Aside0.mk (join_below HB0.out hb)
 have H3 := Aside0.mk h3
 clear hb h3 y0 y1 y2
 by_cases hn : n ≤ 200
 · have e1 : decide (n ≤ 200) = true := decide_eq_true hn
   go_wp2
   go_ret
   exact ⟨true, rfl, fun _ => ⟨by have := (H3.out hn).1; omega, (H3.out hn).2⟩, HB2.out⟩
 · have e1 : decide (n ≤ 200) = false := decide_eq_false hn
   go_wp2
   go_ret
   exact ⟨false, rfl, fun h => (Bool.false_ne_true h).elim, HB2.out⟩
set_option maxHeartbeats 40000000 in
set_option maxRecDepth 100000 in
theorem fewg_any (T : List Tok) (R : List Rul) (AT AR : Option Addr) (ct cr : Nat) (W : World) (hT : kTok.C W AT T.length T) (hR : kRul.C W AR R.length R) :
 Calls Tryz.prog 4 #[.agg #[.slice AT T.length ct, .slice AR R.length cr]] W (FewP ((∀ t, t ∈ T → (sizeR t.f3 ≤ 200 ∧ setOk t.f3)) ∧ ∀ r, r ∈ R → ∀ s, s ∈ r.f2 → sizeP s.f1 ≤ 200) W) := by
 have HT := Aside0.mk hT
 have HR := Aside0.mk hR
 have hlT : T.length ≤ 9223372036854775807 := hT.2.1
 have hlR : R.length ≤ 9223372036854775807 := hR.2.1
 clear hT hR
 go_enter Tryz.func4, Tryz.ntmps4
 go_upto_region 1 with (fail)
 obtain ⟨w1, hw1⟩ : ∃ z, W.alloc (.cells #[.slice AT T.length ct, .slice AR R.length cr] 25) = z := ⟨_, rfl⟩
 obtain ⟨bg, hbg⟩ : ∃ z, W.heap.size = z := ⟨_, rfl⟩
 have HB0 : Aside0 (Below W.heap.size W w1) := ⟨hw1 ▸ below1 _ _⟩
 have HKG : Aside0 (w1.heap[bg]? = some (.cells #[.slice AT T.length ct, .slice AR R.length cr] 25 (0, 0))) := ⟨by rw [← hw1, ← hbg]; exact blk_new _ _⟩
 rw [hw1, hbg]
 clear hw1 hbg
 have y0 : w1.cell? ⟨bg, 0, none⟩ = some (.slice AT T.length ct) := (blk_cell HKG.out 0).trans rfl
 have y1 : w1.cell? ⟨bg, 1, none⟩ = some (.slice AR R.length cr) := (blk_cell HKG.out 1).trans rfl
 by_cases h20 : 20 < T.length
 · have d1 : decide (20 < T.length) = true := decide_eq_true h20
   go_wp2
   go_ret
   exact ⟨false, rfl, fun h => (Bool.false_ne_true h).elim, HB0.out⟩
 have d1 : decide (20 < T.length) = false := decide_eq_false h20
 by_cases h10 : 10 < R.length
 · have d2 : decide (10 < R.length) = true := decide_eq_true h10
   go_wp2
   go_ret
   exact ⟨false, rfl, fun h => (Bool.false_ne_true h).elim, HB0.out⟩
 have d2 : decide (10 < R.length) = false := decide_eq_false h10
 go_upto_block 0 with (fail)
 clear d1 d2 y0 y1
 go_cut [3] (fun v w' => Aside0 (Below w1.heap.size w1 w' ∧ ∀ t, t ∈ T → (sizeR t.f3 ≤ 200 ∧ setOk t.f3)))
 case first =>
  go_wp2_with fail
  go_loopw [3] (fun i w => ∃ m : Nat, i = .int .i64 (m : Int) ∧ m ≤ T.length ∧ Aside0 (Below w1.heap.size w1 w ∧ ∀ j (t : Tok), j < m → T[j]? = some t → (sizeR t.f3 ≤ 200 ∧ setOk t.f3))) (fun i _ => T.length - (intOf i).toNat)
  case atStart => exact ⟨0, rfl, Nat.zero_le _, ⟨⟨Below.refl _ _, fun j t h => absurd h (Nat.not_lt_zero _)⟩⟩⟩
  case round =>
   obtain ⟨m, rfl, hm, HS⟩ := hrel
   obtain ⟨w4, hw4⟩ : ∃ z, wr = z := ⟨_, rfl⟩
   rw [hw4] at HS ⊢
   clear hw4
   have HB4 := Aside0.mk (join_below HB0.out HS.out.1)
   have y0 : w4.cell? ⟨bg, 0, none⟩ = some (.slice AT T.length ct) := (blk_cell (blk_below HKG.out HS.out.1) 0).trans rfl
   by_cases hlt : m < T.length
   · have e1 : decide (m < T.length) = true := decide_eq_true hlt
     have hil : (m : Int) < T.length := by omega
     obtain ⟨g, o, hA, _, hcell⟩ := row_cells HT.out (by omega) (by decide)
     subst hA
     obtain ⟨t, ht⟩ : ∃ t, T[m]? = some t := ⟨_, List.getElem?_eq_getElem hlt⟩
     obtain ⟨cs, _, hK, hcc⟩ := hcell m t ht
     obtain ⟨A4, c4, A5, c5, rfl, l4, g4, l5, g5⟩ := k40_open hK
     have HKR : Aside0 (k38.K W t.f3 [.int .i64 t.f3.f0, .slice A4 t.f3.f1.length c4, .slice A5 t.f3.f2.length c5]) := ⟨k38_mk W t.f3 l4 g4 l5 g5⟩
     have HCC := Aside0.mk hcc
     have z3 := cell_after HB4.out (hcc 3 (.int .i64 t.f3.f0) rfl)
     have z4 := cell_after HB4.out (hcc 4 (.slice A4 t.f3.f1.length c4) rfl)
     have z5 := cell_after HB4.out (hcc 5 (.slice A5 t.f3.f2.length c5) rfl)
     simp only [show kTok.sz = 6 from rfl] at z3 z4 z5
     have HTT := Aside0.mk ht
     have HLT := Aside0.mk hlt
     clear hcell hcc hK ht hlt l4 g4 l5 g5
     go_wp2_with fail
     refine (few6_any t.f3 W w4 _ HB4.out HKR.out).mono ?_
     rintro e w5 ⟨b, rfl, hbs, hb⟩
     have HB5 := Aside0.mk (join_below HS.out.1 hb)
     have HBS := Aside0.mk hbs
     have y5 : w5.cell? ⟨bg, 0, none⟩ = some (.slice (some ⟨g, o, none⟩) T.length ct) := (blk_cell (blk_below HKG.out HB5.out) 0).trans rfl
     have z0 := cell_after (join_below HB0.out HB5.out) (HCC.out 0 (.string t.f0) rfl)
     rw [Nat.add_zero] at z0
     simp only [show kTok.sz = 6 from rfl] at z0
     clear hb hbs z3 z4 z5 y0 e1
     cases b with
     | false =>
      go_wp2
      go_ret
      exact ⟨false, rfl, fun h => (Bool.false_ne_true h).elim, join_below HB0.out HB5.out⟩
     | true =>
      have HS2 : Aside0 (∀ j (u : Tok), j < m + 1 → T[j]? = some u → (sizeR u.f3 ≤ 200 ∧ setOk u.f3)) := ⟨fun j u hj hu => by
       by_cases e : j = m
       · subst e
         rw [HTT.out] at hu
         obtain rfl := Option.some.inj hu
         exact HBS.out rfl
       · exact HS.out.2 j u (by omega) hu⟩
      go_wp2
      all_goals first | (go_ret; exact ⟨false, rfl, fun h => (Bool.false_ne_true h).elim, join_below HB0.out HB5.out⟩) | skip
      all_goals
       go_roundw
       case rel => exact ⟨m + 1, by go_num, HLT.out, ⟨⟨HB5.out, HS2.out⟩⟩⟩
       case measure => have := HLT.out; simp [intOf]; omega
   · have e1 : decide (m < T.length) = false := decide_eq_false hlt
     have HF : Aside0 (Below w1.heap.size w1 w4 ∧ ∀ t, t ∈ T → (sizeR t.f3 ≤ 200 ∧ setOk t.f3)) := ⟨HS.out.1, fun t ht => by
      obtain ⟨j, hj, rfl⟩ := List.getElem_of_mem ht
      exact HS.out.2 j _ (by omega) (List.getElem?_eq_getElem hj)⟩
     clear hlt
     go_wp2
     go_meet
     case rel => exact HF
 case rest =>
  obtain ⟨w2, hw2⟩ : ∃ z, wc = z := ⟨_, rfl⟩
  rw [hw2] at hcut ⊢
  clear hw2
  have HTS := Aside0.mk hcut.out.2
  have HB2 := Aside0.mk hcut.out.1
  clear hcut
  go_wp2_with fail
  go_loopw [4] (fun i w => ∃ m : Nat, i = .int .i64 (m : Int) ∧ m ≤ R.length ∧ Aside0 (Below w1.heap.size w1 w ∧ ∀ j (r : Rul), j < m → R[j]? = some r → ∀ s, s ∈ r.f2 → sizeP s.f1 ≤ 200)) (fun i _ => R.length - (intOf i).toNat)
  case atStart => exact ⟨0, rfl, Nat.zero_le _, ⟨⟨HB2.out, fun j t h => absurd h (Nat.not_lt_zero _)⟩⟩⟩
  case round =>
   obtain ⟨m, rfl, hm, HS⟩ := hrel
   obtain ⟨w4, hw4⟩ : ∃ z, wr = z := ⟨_, rfl⟩
   rw [hw4] at HS ⊢
   clear hw4
   have HB4 := Aside0.mk (join_below HB0.out HS.out.1)
   have y1 : w4.cell? ⟨bg, 1, none⟩ = some (.slice AR R.length cr) := (blk_cell (blk_below HKG.out HS.out.1) 1).trans rfl
   by_cases hlt : m < R.length
   · have e1 : decide (m < R.length) = true := decide_eq_true hlt
     have hil : (m : Int) < R.length := by omega
     obtain ⟨g, o, hA, _, hcell⟩ := row_cells HR.out (by omega) (by decide)
     subst hA
     obtain ⟨r, hr⟩ : ∃ r, R[m]? = some r := ⟨_, List.getElem?_eq_getElem hlt⟩
     obtain ⟨cs, _, hK, hcc⟩ := hcell m r hr
     obtain ⟨A2, c2, rfl, l2, g2⟩ := k43_open hK
     have HCC := Aside0.mk hcc
     have HG2 := Aside0.mk g2
     have hlS : r.f2.length ≤ 9223372036854775807 := g2.2.1
     have z2 := cell_after HB4.out (hcc 2 (.slice A2 r.f2.length c2) rfl)
     simp only [show kRul.sz = 3 from rfl] at z2
     have HRR := Aside0.mk hr
     have HLT := Aside0.mk hlt
     clear hcell hcc hK hr hlt l2 g2
     by_cases h6 : 6 < r.f2.length
     · have d6 : decide (6 < r.f2.length) = true := decide_eq_true h6
       go_wp2
       go_ret
       exact ⟨false, rfl, fun h => (Bool.false_ne_true h).elim, HB4.out⟩
     have d6 : decide (6 < r.f2.length) = false := decide_eq_false h6
     go_wp2_with fail
     clear d6 e1 z2 y1
     go_loopw [5] (fun i w => ∃ n : Nat, i = .int .i64 (n : Int) ∧ n ≤ r.f2.length ∧ Aside0 (Below w1.heap.size w1 w ∧ ∀ j s, j < n → r.f2[j]? = some s → sizeP s.f1 ≤ 200)) (fun i _ => r.f2.length - (intOf i).toNat)
     case atStart => exact ⟨0, rfl, Nat.zero_le _, ⟨⟨HS.out.1, fun j t h => absurd h (Nat.not_lt_zero _)⟩⟩⟩
     case round =>
      obtain ⟨n, rfl, hn, HN⟩ := hrel
      obtain ⟨w6, hw6⟩ : ∃ z, wr = z := ⟨_, rfl⟩
      rw [hw6] at HN ⊢
      clear hw6
      have HB6 := Aside0.mk (join_below HB0.out HN.out.1)
      have y1 : w6.cell? ⟨bg, 1, none⟩ = some (.slice (some ⟨g, o, none⟩) R.length cr) := (blk_cell (blk_below HKG.out HN.out.1) 1).trans rfl
      have z2 := cell_after HB6.out (HCC.out 2 (.slice A2 r.f2.length c2) rfl)
      simp only [show kRul.sz = 3 from rfl] at z2
      by_cases hlt : n < r.f2.length
      · have e1 : decide (n < r.f2.length) = true := decide_eq_true hlt
        have hin : (n : Int) < r.f2.length := by omega
        obtain ⟨gs, os, hA, _, hcell⟩ := row_cells HG2.out (by omega) (by decide)
        subst hA
        obtain ⟨s, hs⟩ : ∃ s, r.f2[n]? = some s := ⟨_, List.getElem?_eq_getElem hlt⟩
        obtain ⟨cs, _, hK, hcc⟩ := hcell n s hs
        obtain ⟨B0, d0, B2, d2, B3, d3, B4, d4, rfl, _, _, f2, E2, f3, E3, f4, E4⟩ := k49_open hK
        have HKP : Aside0 (k47.K W s.f1 [.int .i64 s.f1.f0, .slice B2 s.f1.f1.length d2, .slice B3 s.f1.f2.length d3, .slice B4 s.f1.f3.length d4]) := ⟨k47_mk W s.f1 f2 E2 f3 E3 f4 E4⟩
        have x0 := cell_after HB6.out (hcc 0 (.slice B0 s.f0.length d0) rfl)
        have x1 := cell_after HB6.out (hcc 1 (.int .i64 s.f1.f0) rfl)
        have x2 := cell_after HB6.out (hcc 2 (.slice B2 s.f1.f1.length d2) rfl)
        have x3 := cell_after HB6.out (hcc 3 (.slice B3 s.f1.f2.length d3) rfl)
        have x4 := cell_after HB6.out (hcc 4 (.slice B4 s.f1.f3.length d4) rfl)
        rw [Nat.add_zero] at x0
        simp only [show k49.sz = 5 from rfl] at x0 x1 x2 x3 x4
        have HSS := Aside0.mk hs
        have HLN := Aside0.mk hlt
        clear hcell hcc hK hs hlt f2 E2 f3 E3 f4 E4
        go_upto_region 17 with (fail)
        obtain ⟨w7, hw7⟩ : ∃ z, w6.alloc (.cells #[.slice B0 s.f0.length d0, .int .i64 s.f1.f0, .slice B2 s.f1.f1.length d2, .slice B3 s.f1.f2.length d3, .slice B4 s.f1.f3.length d4] 49) = z := ⟨_, rfl⟩
        obtain ⟨bs, hbs⟩ : ∃ z, w6.heap.size = z := ⟨_, rfl⟩
        have HB7 : Aside0 (Below w6.heap.size w6 w7) := ⟨hw7 ▸ below1 _ _⟩
        have HKS : Aside0 (w7.heap[bs]? = some (.cells #[.slice B0 s.f0.length d0, .int .i64 s.f1.f0, .slice B2 s.f1.f1.length d2, .slice B3 s.f1.f2.length d3, .slice B4 s.f1.f3.length d4] 49 (0, 0))) := ⟨by rw [← hw7, ← hbs]; exact blk_new _ _⟩
        rw [hw7, hbs]
        clear hw7 hbs x0 x1 x2 x3 x4 y1 z2 e1
        have x1 : w7.cell? ⟨bs, 1, none⟩ = some (.int .i64 s.f1.f0) := (blk_cell HKS.out 1).trans rfl
        have x2 : w7.cell? ⟨bs, 2, none⟩ = some (.slice B2 s.f1.f1.length d2) := (blk_cell HKS.out 2).trans rfl
        have x3 : w7.cell? ⟨bs, 3, none⟩ = some (.slice B3 s.f1.f2.length d3) := (blk_cell HKS.out 3).trans rfl
        have x4 : w7.cell? ⟨bs, 4, none⟩ = some (.slice B4 s.f1.f3.length d4) := (blk_cell HKS.out 4).trans rfl
        go_wp2_with fail
        refine (psz_any s.f1 1 W w7 _ (by omega) (by omega) (join_below HB6.out HB7.out) HKP.out).mono ?_
        rintro e w8 ⟨p, rfl, hp1, hp2, hp3, hb⟩
        have HB8 := Aside0.mk (join_below HN.out.1 (join_below HB7.out hb))
        have HP3 := Aside0.mk hp3
        have x0 : w8.cell? ⟨bs, 0, none⟩ = some (.slice B0 s.f0.length d0) := (blk_cell (blk_below HKS.out hb) 0).trans rfl
        clear hb hp3 x1 x2 x3 x4
        by_cases hp : 200 < p
        · have d1 : decide (200 < p) = true := decide_eq_true hp
          go_wp2
          go_ret
          exact ⟨false, rfl, fun h => (Bool.false_ne_true h).elim, join_below HB0.out HB8.out⟩
        have d1 : decide (200 < p) = false := decide_eq_false hp
        have HN2 : Aside0 (∀ j u, j < n + 1 → r.f2[j]? = some u → sizeP u.f1 ≤ 200) := ⟨fun j u hj hu => by
         by_cases e : j = n
         · subst e
           rw [HSS.out] at hu
           obtain rfl := Option.some.inj hu
           have := (HP3.out (by omega)).1
           omega
         · exact HN.out.2 j u (by omega) hu⟩
        go_wp2
        all_goals first | (go_ret; exact ⟨false, rfl, fun h => (Bool.false_ne_true h).elim, join_below HB0.out HB8.out⟩) | skip
        all_goals
         go_roundw
         case rel => exact ⟨n + 1, by go_num, HLN.out, ⟨⟨HB8.out, HN2.out⟩⟩⟩
         case measure => have := HLN.out; simp [intOf]; omega
      · have e1 : decide (n < r.f2.length) = false := decide_eq_false hlt
        have HF : Aside0 (Below w1.heap.size w1 w6 ∧ ∀ s, s ∈ r.f2 → sizeP s.f1 ≤ 200) := ⟨HN.out.1, fun t ht => by
         obtain ⟨j, hj, rfl⟩ := List.getElem_of_mem ht
         exact HN.out.2 j _ (by omega) (List.getElem?_eq_getElem hj)⟩
        clear hlt
        have HS2 : Aside0 (∀ j (u : Rul), j < m + 1 → R[j]? = some u → ∀ s, s ∈ u.f2 → sizeP s.f1 ≤ 200) := ⟨fun j u hj hu => by
         by_cases e : j = m
         · subst e
           rw [HRR.out] at hu
           obtain rfl := Option.some.inj hu
           exact HF.out.2
         · exact HS.out.2 j u (by omega) hu⟩
        go_wp2
        go_roundw
        case rel => exact ⟨m + 1, by go_num, HLT.out, ⟨⟨HF.out.1, HS2.out⟩⟩⟩
        case measure => have := HLT.out; simp [intOf]; omega
   · have e1 : decide (m < R.length) = false := decide_eq_false hlt
     have HF : Aside0 (∀ r, r ∈ R → ∀ s, s ∈ r.f2 → sizeP s.f1 ≤ 200) := ⟨fun t ht => by
      obtain ⟨j, hj, rfl⟩ := List.getElem_of_mem ht
      exact HS.out.2 j _ (by omega) (List.getElem?_eq_getElem hj)⟩
     clear hlt
     go_wp2
     go_ret
     exact ⟨true, rfl, fun _ => ⟨HTS.out, HF.out⟩, HB4.out⟩
end Go.Proofs.YthdfmbmbjpmlaaaGreatDoor.Rn
end
section
set_option linter.unusedVariables false
set_option linter.unusedSimpArgs false
namespace Go.Proofs.YthdfmbmbjpmlaaaGreatDoor.Rn
open Go Go.RowKit Go.Proofs.YthdfmbmbjpmlaaaGreatDoorW.PrintWords Go.Proofs.YthdfmbmbjpmlaaaGreatDoorW.PrintLast Go.Proofs.YthdfmbmbjpmlaaaGreatDoorW.PrintMore
def codeI (o : Option Int) : Int := o.getD 0
set_option maxHeartbeats 4000000 in
set_option maxRecDepth 100000 in
theorem rfind_any (T : List Tok) (AT AR : Option Addr) (ct cr nR : Nat) (s : ByteArray) (W : World) (hT : kTok.C W AT T.length T) :
 Calls Tryz.prog 14 #[.agg #[.slice AT T.length ct, .slice AR nR cr], .string s] W fun e W' => e = .returned (.int .i64 (findS T s 0)) ∧ Below W.heap.size W W' := by
 have HT := Aside0.mk hT
 have hl : T.length ≤ 9223372036854775807 := hT.2.1
 clear hT
 go_enter Tryz.func14, Tryz.ntmps14
 go_wp2
 obtain ⟨w1, hw1⟩ : ∃ x, W.alloc (.cells #[.slice AT T.length ct, .slice AR nR cr] 25) = x := ⟨_, rfl⟩
 have HB0 : Aside0 (Below W.heap.size W w1) := ⟨hw1 ▸ below1 _ _⟩
 have y0 : w1.cell? ⟨W.heap.size, 0, none⟩ = some (.slice AT T.length ct) := by rw [← hw1]; exact (blk_cell (blk_new W _) 0).trans rfl
 rw [hw1]
 clear hw1
 go_loopw [5] (fun i w => ∃ m : Nat, i = .int .i64 (m : Int) ∧ m ≤ T.length ∧ w = w1 ∧ Aside0 (∀ j (t : Tok), j < m → T[j]? = some t → t.f0 ≠ s)) (fun i _ => T.length - (intOf i).toNat)
 case atStart => exact ⟨0, rfl, Nat.zero_le _, rfl, ⟨fun j t h => absurd h (Nat.not_lt_zero _)⟩⟩
 case round =>
  obtain ⟨m, rfl, hm, rfl, HS⟩ := hrel
  by_cases hlt : m < T.length
  · have e1 : decide (m < T.length) = true := decide_eq_true hlt
    have hil : (m : Int) < T.length := by omega
    obtain ⟨g, o, rfl, _, hcell⟩ := row_cells (Kd.C_below HT.out HB0.out) (by omega) (by decide)
    obtain ⟨t, ht⟩ : ∃ t, T[m]? = some t := ⟨_, List.getElem?_eq_getElem hlt⟩
    obtain ⟨cs, _, hK, hcc⟩ := hcell m t ht
    obtain ⟨A4, c4, A5, c5, rfl, _, _, _, _⟩ := k40_open hK
    have v0 := hcc 0 (.string t.f0) rfl
    rw [Nat.add_zero] at v0
    simp only [show kTok.sz = 6 from rfl] at v0
    have HTT := Aside0.mk ht
    have HLT := Aside0.mk hlt
    clear hcell hcc hK ht hlt
    by_cases c : t.f0 = s
    · have ec : (t.f0.toList == s.toList) = true := beq_iff_eq.2 (congrArg ByteArray.toList c)
      have HR : Aside0 (findS T s 0 = m) := ⟨findS_at HTT.out c HS.out⟩
      clear c
      go_wp2
      go_ret
      rw [HR.out]
      exact ⟨rfl, HB0.out⟩
    · have ec : (t.f0.toList == s.toList) = false := beq_eq_false_iff_ne.2 (fun e => c (text_ext e))
      have HS2 : Aside0 (∀ j (u : Tok), j < m + 1 → T[j]? = some u → u.f0 ≠ s) := ⟨fun j u hj hu => by
       by_cases e : j = m
       · subst e
         rw [HTT.out] at hu
         obtain rfl := Option.some.inj hu
         exact c
       · exact HS.out j u (by omega) hu⟩
      clear c
      go_wp2
      go_roundw
      case rel => exact ⟨m + 1, by go_num, HLT.out, by first | rfl | trivial, HS2⟩
      case measure => have := HLT.out; simp [intOf]; omega
  · have e1 : decide (m < T.length) = false := decide_eq_false hlt
    have HR : Aside0 (findS T s 0 = -1) := ⟨findS_none (fun j t hj ht => HS.out j t (by omega) ht)⟩
    clear hlt
    go_wp2
    go_ret
    rw [HR.out]
    exact ⟨rfl, HB0.out⟩
theorem namesS_at (T : List Tok) (kind : Int) {l : List ByteArray} {m : Nat} {s : ByteArray} (h : l[m]? = some s) :
 namesS T kind (l.take m) (l.drop m) = if 0 ≤ findS T s 0 ∧ hasT (l.take m) s = false then (if kindAt T (findS T s 0) = kind then namesS T kind (l.take (m + 1)) (l.drop (m + 1)) else some 5) else some 4 := by
 have hlt := (List.getElem?_eq_some_iff.1 h).1
 obtain rfl : l[m] = s := (List.getElem?_eq_some_iff.1 h).2
 rw [List.drop_eq_getElem_cons hlt, namesS, List.take_append_getElem hlt]
theorem hasT_take {l : List ByteArray} {m : Nat} {s : ByteArray} (h : ∀ j t, j < m → l[j]? = some t → t ≠ s) : hasT (l.take m) s = false := by
 unfold hasT
 rw [List.any_eq_false]
 intro t ht
 obtain ⟨j, hj, rfl⟩ := List.getElem_of_mem ht
 have hj2 : j < m ∧ j < l.length := by rw [List.length_take] at hj; omega
 have := h j (l.take m)[j] hj2.1 (by rw [List.getElem_take]; exact List.getElem?_eq_getElem hj2.2)
 simp only [Bool.not_eq_true, decide_eq_false_iff_not]
 rw [List.getElem_take] at *
 exact fun e => this e.symm
theorem hasT_hit {l : List ByteArray} {m j : Nat} {s : ByteArray} (hj : j < m) (h : l[j]? = some s) : hasT (l.take m) s = true := by
 unfold hasT
 rw [List.any_eq_true]
 have hl := (List.getElem?_eq_some_iff.1 h).1
 refine ⟨s, ?_, by simp⟩
 obtain rfl : l[j] = s := (List.getElem?_eq_some_iff.1 h).2
 rw [List.mem_take_iff_getElem]
 exact ⟨j, by omega, rfl⟩
set_option maxHeartbeats 4000000 in
set_option maxRecDepth 100000 in
theorem rnames_any (T : List Tok) (AT AR : Option Addr) (ct cr nR : Nat) (l : List ByteArray) (AL : Option Addr) (cl : Nat) (kind : Int) (W : World) (hT : kTok.C W AT T.length T) (hL : Kd.string.C W AL l.length l) :
 Calls Tryz.prog 55 #[.agg #[.slice AT T.length ct, .slice AR nR cr], .slice AL l.length cl, .int .i64 kind] W fun e W' => e = .returned (.int .i64 (codeI (namesS T kind [] l))) ∧ Below W.heap.size W W' := by
 have HT := Aside0.mk hT
 have HL := Aside0.mk hL
 have hl : l.length ≤ 9223372036854775807 := hL.2.1
 clear hT hL
 obtain ⟨res, hres⟩ : ∃ r, namesS T kind [] l = r := ⟨_, rfl⟩
 have HR : Aside0 (namesS T kind (l.take 0) (l.drop 0) = res) := ⟨hres⟩
 rw [hres]
 clear hres
 go_enter Tryz.func55, Tryz.ntmps55
 go_wp2
 obtain ⟨w1, hw1⟩ : ∃ x, W.alloc (.cells #[.slice AT T.length ct, .slice AR nR cr] 25) = x := ⟨_, rfl⟩
 have HB0 : Aside0 (Below W.heap.size W w1) := ⟨hw1 ▸ below1 _ _⟩
 have HK : Aside0 (w1.heap[W.heap.size]? = some (.cells #[.slice AT T.length ct, .slice AR nR cr] 25 (0, 0))) := ⟨by rw [← hw1]; exact blk_new _ _⟩
 rw [hw1]
 clear hw1
 go_loopw [7] (fun i w => ∃ m : Nat, i = .int .i64 (m : Int) ∧ m ≤ l.length ∧ Aside0 (Below w1.heap.size w1 w ∧ namesS T kind (l.take m) (l.drop m) = res)) (fun i _ => l.length - (intOf i).toNat)
 case atStart => exact ⟨0, rfl, Nat.zero_le _, ⟨⟨Below.refl _ _, HR.out⟩⟩⟩
 case round =>
  obtain ⟨m, rfl, hm, HS⟩ := hrel
  obtain ⟨w2, hw2⟩ : ∃ x, wr = x := ⟨_, rfl⟩
  rw [hw2] at HS ⊢
  clear hw2
  by_cases hlt : m < l.length
  · have e1 : decide (m < l.length) = true := decide_eq_true hlt
    have hil : (m : Int) < l.length := by omega
    obtain ⟨g, o, rfl, _, hcell⟩ := row_cells HL.out (by omega) (by decide)
    have HCL := Aside0.mk hcell
    obtain ⟨s, hs⟩ : ∃ s, l[m]? = some s := ⟨_, List.getElem?_eq_getElem hlt⟩
    obtain ⟨cs, _, hK, hcc⟩ := hcell m s hs
    have hcs : cs = [.string s] := hK
    subst hcs
    have v0 := hcc 0 (.string s) rfl
    rw [Nat.add_zero, show m * Kd.string.sz = m from Nat.mul_one m] at v0
    have HV0 := Aside0.mk v0
    have HSS := Aside0.mk hs
    have HLT := Aside0.mk hlt
    clear hcell hcc hK hs hlt v0
    go_upto_region 4 with (fail)
    clear e1
    have q0 : ∀ p : Later w2, p.wx.cell? ⟨W.heap.size, 0, none⟩ = some (.slice AT T.length ct) := fun p => (blk_cell (blk_below HK.out (join_below HS.out.1 p.below)) 0).trans rfl
    have q1 : ∀ p : Later w2, p.wx.cell? ⟨W.heap.size, 1, none⟩ = some (.slice AR nR cr) := fun p => (blk_cell (blk_below HK.out (join_below HS.out.1 p.below)) 1).trans rfl
    have q2 : ∀ p : Later w2, p.wx.cell? ⟨g, o + m, none⟩ = some (.string s) := fun p => cell_after (join_below (join_below HB0.out HS.out.1) p.below) HV0.out
    obtain ⟨wd, hwd⟩ : ∃ x, w2.drew = x := ⟨_, rfl⟩
    have HLW : Aside0 (Below w2.heap.size w2 wd) := ⟨hwd ▸ below_drew1 (Below.refl _ _)⟩
    refine wp_region_held (S := fun w' => ∃ p : Later w2, w' = p.wx) (by kernel_rfl) ?_
    change wpAnyH _ _ _ _ _ _ _ _ (World.drew _)
    rw [hwd]
    clear hwd
    iterate 5 ((first | refine takeR (i := 0) (by decide +kernel) (by rfl) ?_ ?_ ?_ | refine takeR (i := 1) (by decide +kernel) (by rfl) ?_ ?_ ?_ | refine takeR (i := 2) (by decide +kernel) (by rfl) ?_ ?_ ?_ | refine takeR (i := 3) (by decide +kernel) (by rfl) ?_ ?_ ?_ | refine takeR (i := 4) (by decide +kernel) (by rfl) ?_ ?_ ?_); (focus first | exact fun _ _ _ _ h => h | exact fun _ _ _ _ h => HPQ.out _ _ _ _ (by rfl) h); (focus exact ⟨⟨_, HLW.out⟩, rfl⟩); intro K hK; go_simp; (with_reducible refine hK _ ?_); clear hK K)
    refine hall1 (i := 5) (by kernel_rfl) (by rfl) (fun K hK => ?_)
    go_simp
    refine (rfind_any T AT AR ct cr nR s _ (Kd.C_below HT.out (join_below (join_below HB0.out HS.out.1) HLW.out))).mono ?_
    rintro e w3 ⟨rfl, hd⟩
    have HB3 : Aside0 (Below w2.heap.size w2 w3) := ⟨join_below HLW.out hd⟩
    clear hd q0 q1 q2
    refine hK _ _ ⟨⟨_, HB3.out⟩, rfl⟩ ?_
    clear hK K
    (refine takeR (i := 6) (by kernel_rfl) (by rfl) ?_ ?_ ?_; (focus first | exact fun _ _ _ _ h => h | exact fun _ _ _ _ h => HPQ.out _ _ _ _ (by rfl) h); (focus exact ⟨⟨_, HB3.out⟩, rfl⟩); intro K hK; go_simp; (with_reducible refine hK _ ?_); clear hK K)
    refine wpAnyH_done (by kernel_rfl) ?_ _
    obtain ⟨k, hk⟩ : ∃ k, findS T s 0 = k := ⟨_, rfl⟩
    rw [hk]
    have HKK := Aside0.mk hk
    have HB13 := Aside0.mk (join_below HS.out.1 HB3.out)
    have HAT := Aside0.mk ((namesS_at T kind HSS.out).symm.trans HS.out.2)
    clear hk HLW
    go_upto_block 2 with (fail)
    go_cut [9] (fun v9 w' => Aside0 (Below w1.heap.size w1 w' ∧ hasT (l.take m) s = false))
    case first =>
     go_wp2_with fail
     go_loopw [9] (fun j w => ∃ n : Nat, j = .int .i64 (n : Int) ∧ n ≤ m ∧ Aside0 (Below w1.heap.size w1 w ∧ ∀ j t, j < n → l[j]? = some t → t ≠ s)) (fun j _ => m - (intOf j).toNat)
     case atStart => exact ⟨0, rfl, Nat.zero_le _, ⟨⟨HB13.out, fun j t h => absurd h (Nat.not_lt_zero _)⟩⟩⟩
     case round =>
      obtain ⟨n, rfl, hn, HN⟩ := hrel
      obtain ⟨w4, hw4⟩ : ∃ x, wr = x := ⟨_, rfl⟩
      rw [hw4] at HN ⊢
      clear hw4
      by_cases hlt : n < m
      · have e1 : decide (n < m) = true := decide_eq_true hlt
        have hml : m < l.length := HLT.out
        have hnl : (n : Int) < l.length := by omega
        obtain ⟨u, hu⟩ : ∃ u, l[n]? = some u := ⟨_, List.getElem?_eq_getElem (by omega)⟩
        obtain ⟨cs, _, hK, hcc⟩ := HCL.out n u hu
        have hcs : cs = [.string u] := hK
        subst hcs
        have z0 := cell_after (join_below HB0.out HN.out.1) (hcc 0 (.string u) rfl)
        rw [Nat.add_zero, show n * Kd.string.sz = n from Nat.mul_one n] at z0
        have z1 := cell_after (join_below HB0.out HN.out.1) HV0.out
        have HUU := Aside0.mk hu
        have HNM := Aside0.mk hlt
        clear hcc hK hu hlt hml
        by_cases c : u = s
        · have ec : (u.toList == s.toList) = true := beq_iff_eq.2 (congrArg ByteArray.toList c)
          have HRR : Aside0 (res = some 4) := ⟨by
           have h := HAT.out
           rw [if_neg (fun h => by rw [hasT_hit HNM.out (c ▸ HUU.out)] at h; exact absurd h.2 (by decide))] at h
           exact h.symm⟩
          clear c
          go_upto_region 8 with (fail)
          go_quiet (fail)
          obtain ⟨w5, hw5⟩ : ∃ x, World.drewN w4 nq = x := ⟨_, rfl⟩
          have HB5 : Aside0 (Below w4.heap.size w4 w5) := ⟨hw5 ▸ pw_below_drewN (Below.refl _ _) _⟩
          rw [hw5]
          clear hw5 z0 z1
          go_wp2
          go_ret
          rw [HRR.out]
          exact ⟨rfl, join_below HB0.out (join_below HN.out.1 HB5.out)⟩
        · have ec : (u.toList == s.toList) = false := beq_eq_false_iff_ne.2 (fun e => c (text_ext e))
          have HN2 : Aside0 (∀ j t, j < n + 1 → l[j]? = some t → t ≠ s) := ⟨fun j t hj ht => by
           by_cases e : j = n
           · subst e
             rw [HUU.out] at ht
             obtain rfl := Option.some.inj ht
             exact c
           · exact HN.out.2 j t (by omega) ht⟩
          clear c
          go_upto_region 8 with (fail)
          go_quiet (fail)
          obtain ⟨w5, hw5⟩ : ∃ x, World.drewN w4 nq = x := ⟨_, rfl⟩
          have HB5 : Aside0 (Below w4.heap.size w4 w5) := ⟨hw5 ▸ pw_below_drewN (Below.refl _ _) _⟩
          rw [hw5]
          clear hw5 z0 z1
          go_wp2
          go_roundw
          case rel => exact ⟨n + 1, by go_num, HNM.out, ⟨⟨join_below HN.out.1 HB5.out, HN2.out⟩⟩⟩
          case measure => have := HNM.out; simp [intOf]; omega
      · have e1 : decide (n < m) = false := decide_eq_false hlt
        have HH : Aside0 (hasT (l.take m) s = false) := ⟨hasT_take (fun j t hj ht => HN.out.2 j t (by omega) ht)⟩
        have HBX := Aside0.mk HN.out.1
        clear hlt hn HN
        go_wp2
        go_meet
        case rel => exact ⟨⟨HBX.out, HH.out⟩⟩
    case rest =>
     obtain ⟨w4, hw4⟩ : ∃ x, wc = x := ⟨_, rfl⟩
     rw [hw4] at hcut ⊢
     clear hw4
     have HBX := Aside0.mk hcut.out.1
     have HH := Aside0.mk hcut.out.2
     clear hcut
     by_cases k0 : k < 0
     · have e2 : decide (k < 0) = true := decide_eq_true k0
       have HRR : Aside0 (res = some 4) := ⟨by
        have h := HAT.out
        rw [if_neg (fun h => by have := h.1; rw [HKK.out] at this; omega)] at h
        exact h.symm⟩
       clear k0
       go_wp2
       go_ret
       rw [HRR.out]
       exact ⟨rfl, join_below HB0.out HBX.out⟩
     · have e2 : decide (k < 0) = false := decide_eq_false k0
       have hkl := findS_lt T s 0
       rw [HKK.out] at hkl
       obtain ⟨kn, hkn⟩ : ∃ kn : Nat, k = (kn : Int) := ⟨k.toNat, by omega⟩
       subst hkn
       have hk2 : kn < T.length := by omega
       have hk3 : (kn : Int) < T.length := by omega
       obtain ⟨gT, oT, rfl, _, hcT⟩ := row_cells HT.out (by omega) (by decide)
       obtain ⟨t, ht⟩ : ∃ t, T[kn]? = some t := ⟨_, List.getElem?_eq_getElem hk2⟩
       obtain ⟨cs, _, hK, hcc⟩ := hcT kn t ht
       obtain ⟨A4, c4, A5, c5, rfl, _, _, _, _⟩ := k40_open hK
       have v1 := cell_after (join_below HB0.out HBX.out) (hcc 1 (.int .i64 t.f1) rfl)
       simp only [show kTok.sz = 6 from rfl] at v1
       have q0 : w4.cell? ⟨W.heap.size, 0, none⟩ = some (.slice (some ⟨gT, oT, none⟩) T.length ct) := (blk_cell (blk_below HK.out HBX.out) 0).trans rfl
       have hki : kindAt T (kn : Int) = t.f1 := by
        unfold kindAt rd_T40
        rw [Int.toNat_natCast, List.getD_eq_getElem?_getD, ht]
        rfl
       have HKI := Aside0.mk hki
       have HFI : Aside0 (0 ≤ findS T s 0 ∧ hasT (l.take m) s = false) := ⟨by rw [HKK.out]; exact ⟨by omega, HH.out⟩⟩
       clear hcT hcc hK ht hkl hki k0
       by_cases ck : t.f1 = kind
       · have e3 : (t.f1 == kind) = true := beq_iff_eq.2 ck
         have HR2 : Aside0 (namesS T kind (l.take (m + 1)) (l.drop (m + 1)) = res) := ⟨by
          have h := HAT.out
          rw [if_pos HFI.out, HKK.out, HKI.out, if_pos ck] at h
          exact h⟩
         clear ck
         go_wp2
         go_roundw
         case rel => exact ⟨m + 1, by go_num, HLT.out, ⟨⟨HBX.out, HR2.out⟩⟩⟩
         case measure => have := HLT.out; simp [intOf]; omega
       · have e3 : (t.f1 == kind) = false := beq_eq_false_iff_ne.2 ck
         have HRR : Aside0 (res = some 5) := ⟨by
          have h := HAT.out
          rw [if_pos HFI.out, HKK.out, HKI.out, if_neg ck] at h
          exact h.symm⟩
         clear ck
         go_wp2
         go_ret
         rw [HRR.out]
         exact ⟨rfl, join_below HB0.out HBX.out⟩
  · have e1 : decide (m < l.length) = false := decide_eq_false hlt
    have HRR : Aside0 (res = none) := ⟨by
     have h := HS.out.2
     rw [List.drop_of_length_le (by omega)] at h
     exact h.symm⟩
    clear hlt
    go_wp2
    go_ret
    rw [HRR.out]
    exact ⟨rfl, join_below HB0.out HS.out.1⟩
end Go.Proofs.YthdfmbmbjpmlaaaGreatDoor.Rn
end
section
set_option linter.unusedVariables false
set_option linter.unusedSimpArgs false
namespace Go.Proofs.YthdfmbmbjpmlaaaGreatDoor.Rn
open Go Go.RowKit Go.Proofs.YthdfmbmbjpmlaaaGreatDoorW.PrintWords Go.Proofs.YthdfmbmbjpmlaaaGreatDoorW.PrintLast Go.Proofs.YthdfmbmbjpmlaaaGreatDoorW.PrintMore
theorem namesS_ne (T : List Tok) (kind : Int) : ∀ (l p : List ByteArray) (c : Int), namesS T kind p l = some c → c ≠ 0
 | [], p, c, h => by simp [namesS] at h
 | s :: l, p, c, h => by
  rw [namesS] at h
  split at h
  · split at h
    · exact namesS_ne T kind l _ c h
    · injection h with h; omega
  · injection h with h; omega
theorem orS_some {a b : Option Int} {c : Int} (h : orS a b = some c) : a = some c ∨ (a = none ∧ b = some c) := by
 cases a with
 | none => exact Or.inr ⟨rfl, h⟩
 | some d => exact Or.inl h
mutual
theorem nodeR_ne (T : List Tok) : ∀ (x : Pt) (c : Int), nodeR T x = some c → c ≠ 0
 | ⟨k, n, e, l⟩, c, h => by
  rw [nodeR] at h
  split at h
  · rcases orS_some h with h | ⟨_, h⟩
    · exact namesS_ne T _ _ _ c h
    · rcases orS_some h with h | ⟨_, h⟩
      · exact namesS_ne T _ _ _ c h
      · exact nodeL_ne T l c h
  · injection h with h; omega
theorem nodeL_ne (T : List Tok) : ∀ (l : List Pt) (c : Int), nodeL T l = some c → c ≠ 0
 | [], c, h => by simp [nodeL] at h
 | x :: l, c, h => by
  rw [nodeL] at h
  rcases orS_some h with h | ⟨_, h⟩
  · exact nodeR_ne T x c h
  · exact nodeL_ne T l c h
end
theorem parts_kind {a : Int} (h : ¬ (a = 1 ∨ a = 4 ∨ a = 2 ∨ a = 3 ∨ a = 5 ∨ a = 6 ∨ a = 7)) : partsP a = -1 := by
 unfold partsP
 rw [if_neg (by omega), if_neg (by omega), if_neg (by omega)]
theorem nodeL_at (T : List Tok) {l : List Pt} {m : Nat} {x : Pt} (h : l[m]? = some x) : nodeL T (l.drop m) = orS (nodeR T x) (nodeL T (l.drop (m + 1))) := by
 have hlt := (List.getElem?_eq_some_iff.1 h).1
 obtain rfl : l[m] = x := (List.getElem?_eq_some_iff.1 h).2
 rw [List.drop_eq_getElem_cons hlt, nodeL]
def RPatC (T : List Tok) (x : Pt) : Prop := ∀ (AT AR : Option Addr) (ct cr nR : Nat) (w0 W : World) (cs : List Value), Below w0.heap.size w0 W → kPt.K w0 x cs → kTok.C W AT T.length T →
    Calls Tryz.prog 57 #[.agg #[.slice AT T.length ct, .slice AR nR cr], .agg cs.toArray] W fun e W' => e = .returned (.int .i64 (codeI (nodeR T x))) ∧ Below W.heap.size W W'
set_option maxHeartbeats 40000000 in
set_option maxRecDepth 100000 in
theorem rpat_go (T : List Tok) (x : Pt) (hx : ∀ y, y ∈ x.f3 → RPatC T y) : RPatC T x := fun AT AR ct cr nR w0 W cs hB hK0 hT => by
 obtain ⟨A1, c1, A2, c2, A3, c3, rfl, l1, C1, l2, C2, l3, C3⟩ := k47_open hK0
 have HX := Aside0.mk hx
 have HT := Aside0.mk hT
 have HC1 := Aside0.mk (Kd.C_below C1 hB)
 have HC2 := Aside0.mk (Kd.C_below C2 hB)
 have HC3 := Aside0.mk (Kd.C_below C3 hB)
 have hl3 : x.f3.length ≤ 9223372036854775807 := C3.2.1
 obtain ⟨res, hres⟩ : ∃ r, nodeR T x = r := ⟨_, rfl⟩
 have HR : Aside0 ((if shapedS x = true then orS (namesS T (if x.f0 = 3 then 1 else 0) [] x.f1) (orS (namesS T 2 [] x.f2) (nodeL T x.f3)) else some 5) = res) := ⟨by rw [← hres]; cases x; rw [nodeR]⟩
 rw [hres]
 clear hx hT C1 C2 C3 hres hK0 hB
 go_enter Tryz.func57, Tryz.ntmps57
 go_upto_region 1 with (fail)
 obtain ⟨wa, hwa⟩ : ∃ z, W.alloc (.cells #[.slice AT T.length ct, .slice AR nR cr] 25) = z := ⟨_, rfl⟩
 obtain ⟨w1, hw1⟩ : ∃ z, wa.alloc (.cells #[.int .i64 x.f0, .slice A1 x.f1.length c1, .slice A2 x.f2.length c2, .slice A3 x.f3.length c3] 47) = z := ⟨_, rfl⟩
 obtain ⟨bg, hbg⟩ : ∃ z, W.heap.size = z := ⟨_, rfl⟩
 have hs1 : wa.heap.size = bg + 1 := by rw [← hwa, ← hbg]; simp
 have HBa : Below W.heap.size W wa := hwa ▸ below1 _ _
 have HBb : Below wa.heap.size wa w1 := hw1 ▸ below1 _ _
 have HB0 : Aside0 (Below W.heap.size W w1) := ⟨join_below HBa HBb⟩
 have HKG : Aside0 (w1.heap[bg]? = some (.cells #[.slice AT T.length ct, .slice AR nR cr] 25 (0, 0))) := ⟨blk_below (by rw [← hwa, ← hbg]; exact blk_new _ _) HBb⟩
 have HKP : Aside0 (w1.heap[bg + 1]? = some (.cells #[.int .i64 x.f0, .slice A1 x.f1.length c1, .slice A2 x.f2.length c2, .slice A3 x.f3.length c3] 47 (0, 0))) := ⟨by rw [← hs1, ← hw1]; exact blk_new _ _⟩
 rw [hwa, hw1, hbg]
 clear hwa hw1 hs1 HBa HBb
 have y0 : w1.cell? ⟨bg + 1, 0, none⟩ = some (.int .i64 x.f0) := (blk_cell HKP.out 0).trans rfl
 go_upto_block 0 with (fail)
 go_cut [5, 6, 7] (fun v5 v6 v7 w' => ∃ n a b : Int, v5 = .int .i64 n ∧ v6 = .int .i64 a ∧ v7 = .int .i64 b ∧ w' = w1 ∧ Aside0 (partsP x.f0 = n ∧ decide (0 < a) = (x.f0 == 3 || x.f0 == 2) ∧ decide (0 < b) = (x.f0 == 3)))
 case first =>
  have hk : x.f0 = 1 ∨ x.f0 = 4 ∨ x.f0 = 2 ∨ x.f0 = 3 ∨ x.f0 = 5 ∨ x.f0 = 6 ∨ x.f0 = 7 ∨ ¬ (x.f0 = 1 ∨ x.f0 = 4 ∨ x.f0 = 2 ∨ x.f0 = 3 ∨ x.f0 = 5 ∨ x.f0 = 6 ∨ x.f0 = 7) := by omega
  rcases hk with hk | hk | hk | hk | hk | hk | hk | hk
  · skip
    have t1 : (x.f0 == 1) = true := beq_iff_eq.2 (by omega)
    have HV : Aside0 (partsP x.f0 = 0 ∧ decide ((0 : Int) < 0) = (x.f0 == 3 || x.f0 == 2) ∧ decide ((0 : Int) < 0) = (x.f0 == 3)) := ⟨by rw [hk]; decide⟩
    clear hk
    go_wp2
    go_meet
    case rel => exact ⟨0, 0, 0, rfl, rfl, rfl, rfl, HV⟩
  · skip
    have t1 : (x.f0 == 1) = false := beq_eq_false_iff_ne.2 (by omega)
    have t4 : (x.f0 == 4) = true := beq_iff_eq.2 (by omega)
    have HV : Aside0 (partsP x.f0 = 0 ∧ decide ((0 : Int) < 0) = (x.f0 == 3 || x.f0 == 2) ∧ decide ((0 : Int) < 0) = (x.f0 == 3)) := ⟨by rw [hk]; decide⟩
    clear hk
    go_wp2
    go_meet
    case rel => exact ⟨0, 0, 0, rfl, rfl, rfl, rfl, HV⟩
  · skip
    have t1 : (x.f0 == 1) = false := beq_eq_false_iff_ne.2 (by omega)
    have t4 : (x.f0 == 4) = false := beq_eq_false_iff_ne.2 (by omega)
    have t2 : (x.f0 == 2) = true := beq_iff_eq.2 (by omega)
    have HV : Aside0 (partsP x.f0 = 0 ∧ decide ((0 : Int) < 1) = (x.f0 == 3 || x.f0 == 2) ∧ decide ((0 : Int) < 0) = (x.f0 == 3)) := ⟨by rw [hk]; decide⟩
    clear hk
    go_wp2
    go_meet
    case rel => exact ⟨0, 1, 0, rfl, rfl, rfl, rfl, HV⟩
  · skip
    have t1 : (x.f0 == 1) = false := beq_eq_false_iff_ne.2 (by omega)
    have t4 : (x.f0 == 4) = false := beq_eq_false_iff_ne.2 (by omega)
    have t2 : (x.f0 == 2) = false := beq_eq_false_iff_ne.2 (by omega)
    have t3 : (x.f0 == 3) = true := beq_iff_eq.2 (by omega)
    have HV : Aside0 (partsP x.f0 = 1 ∧ decide ((0 : Int) < 1) = (x.f0 == 3 || x.f0 == 2) ∧ decide ((0 : Int) < 1) = (x.f0 == 3)) := ⟨by rw [hk]; decide⟩
    clear hk
    go_wp2
    go_meet
    case rel => exact ⟨1, 1, 1, rfl, rfl, rfl, rfl, HV⟩
  · skip
    have t1 : (x.f0 == 1) = false := beq_eq_false_iff_ne.2 (by omega)
    have t4 : (x.f0 == 4) = false := beq_eq_false_iff_ne.2 (by omega)
    have t2 : (x.f0 == 2) = false := beq_eq_false_iff_ne.2 (by omega)
    have t3 : (x.f0 == 3) = false := beq_eq_false_iff_ne.2 (by omega)
    have t5 : (x.f0 == 5) = true := beq_iff_eq.2 (by omega)
    have HV : Aside0 (partsP x.f0 = 2 ∧ decide ((0 : Int) < 0) = (x.f0 == 3 || x.f0 == 2) ∧ decide ((0 : Int) < 0) = (x.f0 == 3)) := ⟨by rw [hk]; decide⟩
    clear hk
    go_wp2
    go_meet
    case rel => exact ⟨2, 0, 0, rfl, rfl, rfl, rfl, HV⟩
  · skip
    have t1 : (x.f0 == 1) = false := beq_eq_false_iff_ne.2 (by omega)
    have t4 : (x.f0 == 4) = false := beq_eq_false_iff_ne.2 (by omega)
    have t2 : (x.f0 == 2) = false := beq_eq_false_iff_ne.2 (by omega)
    have t3 : (x.f0 == 3) = false := beq_eq_false_iff_ne.2 (by omega)
    have t5 : (x.f0 == 5) = false := beq_eq_false_iff_ne.2 (by omega)
    have t6 : (x.f0 == 6) = true := beq_iff_eq.2 (by omega)
    have HV : Aside0 (partsP x.f0 = 2 ∧ decide ((0 : Int) < 0) = (x.f0 == 3 || x.f0 == 2) ∧ decide ((0 : Int) < 0) = (x.f0 == 3)) := ⟨by rw [hk]; decide⟩
    clear hk
    go_wp2
    go_meet
    case rel => exact ⟨2, 0, 0, rfl, rfl, rfl, rfl, HV⟩
  · skip
    have t1 : (x.f0 == 1) = false := beq_eq_false_iff_ne.2 (by omega)
    have t4 : (x.f0 == 4) = false := beq_eq_false_iff_ne.2 (by omega)
    have t2 : (x.f0 == 2) = false := beq_eq_false_iff_ne.2 (by omega)
    have t3 : (x.f0 == 3) = false := beq_eq_false_iff_ne.2 (by omega)
    have t5 : (x.f0 == 5) = false := beq_eq_false_iff_ne.2 (by omega)
    have t6 : (x.f0 == 6) = false := beq_eq_false_iff_ne.2 (by omega)
    have t7 : (x.f0 == 7) = true := beq_iff_eq.2 (by omega)
    have HV : Aside0 (partsP x.f0 = 1 ∧ decide ((0 : Int) < 0) = (x.f0 == 3 || x.f0 == 2) ∧ decide ((0 : Int) < 0) = (x.f0 == 3)) := ⟨by rw [hk]; decide⟩
    clear hk
    go_wp2
    go_meet
    case rel => exact ⟨1, 0, 0, rfl, rfl, rfl, rfl, HV⟩
  · skip
    have t1 : (x.f0 == 1) = false := beq_eq_false_iff_ne.2 (by omega)
    have t4 : (x.f0 == 4) = false := beq_eq_false_iff_ne.2 (by omega)
    have t2 : (x.f0 == 2) = false := beq_eq_false_iff_ne.2 (by omega)
    have t3 : (x.f0 == 3) = false := beq_eq_false_iff_ne.2 (by omega)
    have t5 : (x.f0 == 5) = false := beq_eq_false_iff_ne.2 (by omega)
    have t6 : (x.f0 == 6) = false := beq_eq_false_iff_ne.2 (by omega)
    have t7 : (x.f0 == 7) = false := beq_eq_false_iff_ne.2 (by omega)
    have HRR : Aside0 (res = some 5) := ⟨by
     have h := HR.out
     rw [if_neg (by unfold shapedS; rw [parts_kind hk]; first | (simp; done) | (simp; omega))] at h
     exact h.symm⟩
    clear hk
    go_wp2
    go_ret
    rw [HRR.out]
    exact ⟨rfl, hbg ▸ HB0.out⟩
 obtain ⟨n, a, b, rfl, rfl, rfl, hcw, HV⟩ := hcut
 rw [hcw]
 clear hcw
 have y1 : w1.cell? ⟨bg + 1, 1, none⟩ = some (.slice A1 x.f1.length c1) := (blk_cell HKP.out 1).trans rfl
 have y2 : w1.cell? ⟨bg + 1, 2, none⟩ = some (.slice A2 x.f2.length c2) := (blk_cell HKP.out 2).trans rfl
 have y3 : w1.cell? ⟨bg + 1, 3, none⟩ = some (.slice A3 x.f3.length c3) := (blk_cell HKP.out 3).trans rfl
 go_upto_region 15 with (fail)
 go_cut [49] (fun v w' => v = .bool (!shapedS x) ∧ w' = w1)
 case first =>
  have HS : Aside0 (shapedS x = (((x.f3.length : Int) == n) && (decide (0 < x.f1.length) == decide (0 < a)) && (decide (0 < x.f2.length) == decide (0 < b)))) := ⟨by unfold shapedS; rw [HV.out.1, HV.out.2.1, HV.out.2.2]; simp⟩
  by_cases hq : (x.f3.length : Int) = n
  · subst hq
    have HS2 : Aside0 (shapedS x = ((decide (0 < x.f1.length) == decide (0 < a)) && (decide (0 < x.f2.length) == decide (0 < b)))) := ⟨by rw [HS.out, beq_self_eq_true, Bool.true_and]⟩
    generalize hp1 : decide (0 < x.f1.length) = p1 at HS2
    generalize hp2 : decide (0 < x.f2.length) = p2 at HS2
    generalize hpa : decide (0 < a) = pa at HS2
    generalize hpb : decide (0 < b) = pb at HS2
    cases p1 <;> cases pa <;> cases p2 <;> cases pb
    all_goals
     go_wp2
     go_meet
     case rel => exact ⟨by rw [HS2.out]; rfl, rfl⟩
  · have HS2 : Aside0 (shapedS x = false) := ⟨by rw [HS.out, beq_eq_false_iff_ne.2 hq]; rfl⟩
    have hq2 : ((x.f3.length : Int) == n) = false := beq_eq_false_iff_ne.2 hq
    go_wp2
    go_meet
    case rel => exact ⟨by rw [HS2.out]; rfl, rfl⟩
 obtain ⟨rfl, hcw⟩ := hcut
 rw [hcw]
 clear hcw
 by_cases hs : shapedS x = true
 · have HNL : Aside0 (n = (x.f3.length : Int)) := ⟨by
    unfold shapedS at hs
    simp only [Bool.and_eq_true, beq_iff_eq] at hs
    rw [← HV.out.1]
    exact hs.1.1.symm⟩
   have HR2 : Aside0 (orS (namesS T (if x.f0 = 3 then 1 else 0) [] x.f1) (orS (namesS T 2 [] x.f2) (nodeL T x.f3)) = res) := ⟨by
    have h := HR.out
    rw [if_pos hs] at h
    exact h⟩
   rw [hs]
   clear hs HR y1 y2 y3
   obtain rfl := HNL.out
   go_upto_region 18 with (fail)
   go_upto_if 52 with (fail)
   go_cut [8] (fun v w' => v = .int .i64 (if x.f0 = 3 then 1 else 0) ∧ w' = w1)
   case first =>
    by_cases h3 : x.f0 = 3
    · have t3 : (x.f0 == 3) = true := beq_iff_eq.2 h3
      have HI : Aside0 ((if x.f0 = 3 then (1 : Int) else 0) = 1) := ⟨if_pos h3⟩
      clear h3
      go_wp2
      go_meet
      case rel => exact ⟨by rw [HI.out], rfl⟩
    · have t3 : (x.f0 == 3) = false := beq_eq_false_iff_ne.2 h3
      have HI : Aside0 ((if x.f0 = 3 then (1 : Int) else 0) = 0) := ⟨if_neg h3⟩
      clear h3
      go_wp2
      go_meet
      case rel => exact ⟨by rw [HI.out], rfl⟩
   obtain ⟨rfl, hcw⟩ := hcut
   rw [hcw]
   clear hcw y0
   obtain ⟨kd, hkd⟩ : ∃ z : Int, (if x.f0 = 3 then 1 else 0) = z := ⟨_, rfl⟩
   rw [hkd] at HR2 ⊢
   clear hkd
   have g0 : w1.cell? ⟨bg, 0, none⟩ = some (.slice AT T.length ct) := (blk_cell HKG.out 0).trans rfl
   have g1 : w1.cell? ⟨bg, 1, none⟩ = some (.slice AR nR cr) := (blk_cell HKG.out 1).trans rfl
   have y1 : w1.cell? ⟨bg + 1, 1, none⟩ = some (.slice A1 x.f1.length c1) := (blk_cell HKP.out 1).trans rfl
   go_wp2_with fail
   refine (rnames_any T AT AR ct cr nR x.f1 A1 c1 kd w1 (Kd.C_below HT.out HB0.out) (Kd.C_below HC1.out HB0.out)).mono ?_
   rintro e w2 ⟨rfl, hb⟩
   have HB2 := Aside0.mk (join_below HB0.out hb)
   have HKG2 := Aside0.mk (blk_below HKG.out hb)
   have HKP2 := Aside0.mk (blk_below HKP.out hb)
   clear hb g0 g1 y1 HKG HKP
   obtain ⟨r1, hr1⟩ : ∃ z, namesS T kd [] x.f1 = z := ⟨_, rfl⟩
   have HR1 := Aside0.mk hr1
   rw [hr1] at HR2 ⊢
   clear hr1
   cases r1 with
   | some c =>
    have hne := namesS_ne T kd _ _ c HR1.out
    have e1 : (codeI (some c) == 0) = false := beq_eq_false_iff_ne.2 hne
    have HRR : Aside0 (res = some c) := ⟨HR2.out.symm⟩
    clear hne
    go_wp2
    go_ret
    rw [HRR.out]
    exact ⟨rfl, hbg ▸ HB2.out⟩
   | none =>
    have e1 : (codeI none == 0) = true := rfl
    have HR3 : Aside0 (orS (namesS T 2 [] x.f2) (nodeL T x.f3) = res) := ⟨HR2.out⟩
    have g0 : w2.cell? ⟨bg, 0, none⟩ = some (.slice AT T.length ct) := (blk_cell HKG2.out 0).trans rfl
    have g1 : w2.cell? ⟨bg, 1, none⟩ = some (.slice AR nR cr) := (blk_cell HKG2.out 1).trans rfl
    have y2 : w2.cell? ⟨bg + 1, 2, none⟩ = some (.slice A2 x.f2.length c2) := (blk_cell HKP2.out 2).trans rfl
    clear HR2 HR1
    go_wp2_with fail
    refine (rnames_any T AT AR ct cr nR x.f2 A2 c2 2 w2 (Kd.C_below HT.out (hbg ▸ HB2.out)) (Kd.C_below HC2.out (hbg ▸ HB2.out))).mono ?_
    rintro e w3 ⟨rfl, hb⟩
    have HB3 := Aside0.mk (join_below HB2.out hb)
    have HKG3 := Aside0.mk (blk_below HKG2.out hb)
    have HKP3 := Aside0.mk (blk_below HKP2.out hb)
    clear hb g0 g1 y2 e1 HKG2 HKP2
    obtain ⟨r2, hr2⟩ : ∃ z, namesS T 2 [] x.f2 = z := ⟨_, rfl⟩
    have HR1 := Aside0.mk hr2
    rw [hr2] at HR3 ⊢
    clear hr2
    cases r2 with
    | some c =>
     have hne := namesS_ne T 2 _ _ c HR1.out
     have e1 : (codeI (some c) == 0) = false := beq_eq_false_iff_ne.2 hne
     have HRR : Aside0 (res = some c) := ⟨HR3.out.symm⟩
     clear hne
     go_wp2
     go_ret
     rw [HRR.out]
     exact ⟨rfl, hbg ▸ HB3.out⟩
    | none =>
     have e1 : (codeI none == 0) = true := rfl
     have HR4 : Aside0 (nodeL T (x.f3.drop 0) = res) := ⟨HR3.out⟩
     clear HR3 HR1
     go_wp2_with fail
     go_loopw [11] (fun i w => ∃ m : Nat, i = .int .i64 (m : Int) ∧ m ≤ x.f3.length ∧ Aside0 (Below w3.heap.size w3 w ∧ nodeL T (x.f3.drop m) = res)) (fun i _ => x.f3.length - (intOf i).toNat)
     case atStart => exact ⟨0, rfl, Nat.zero_le _, ⟨⟨Below.refl _ _, HR4.out⟩⟩⟩
     case round =>
      clear e1
      obtain ⟨m, rfl, hm, HS⟩ := hrel
      obtain ⟨w4, hw4⟩ : ∃ z, wr = z := ⟨_, rfl⟩
      rw [hw4] at HS ⊢
      clear hw4
      by_cases hlt : m < x.f3.length
      · have e1 : decide (m < x.f3.length) = true := decide_eq_true hlt
        have hil : (m : Int) < x.f3.length := by omega
        obtain ⟨g, o, rfl, _, hcell⟩ := row_cells HC3.out (by omega) (by decide)
        obtain ⟨y, hy⟩ : ∃ y, x.f3[m]? = some y := ⟨_, List.getElem?_eq_getElem hlt⟩
        obtain ⟨cs, _, hK, hcc⟩ := hcell m y hy
        have HKY := Aside0.mk hK
        obtain ⟨B1, d1, B2, d2, B3, d3, rfl, _, _, _, _, _, _⟩ := k47_open hK
        have HCC := Aside0.mk hcc
        have HY := Aside0.mk hy
        have HLT := Aside0.mk hlt
        have HB4 := Aside0.mk (join_below HB3.out HS.out.1)
        clear hcell hcc hK hy hlt
        go_upto_region 29 with (fail)
        clear e1
        have g0 : ∀ p : Later w4, p.wx.cell? ⟨bg, 0, none⟩ = some (.slice AT T.length ct) := fun p => (blk_cell (blk_below HKG3.out (join_below HS.out.1 p.below)) 0).trans rfl
        have g1 : ∀ p : Later w4, p.wx.cell? ⟨bg, 1, none⟩ = some (.slice AR nR cr) := fun p => (blk_cell (blk_below HKG3.out (join_below HS.out.1 p.below)) 1).trans rfl
        have y3 : ∀ p : Later w4, p.wx.cell? ⟨bg + 1, 3, none⟩ = some (.slice (some ⟨g, o, none⟩) x.f3.length c3) := fun p => (blk_cell (blk_below HKP3.out (join_below HS.out.1 p.below)) 3).trans rfl
        have z0 : ∀ p : Later w4, p.wx.cell? ⟨g, o + m * 4 + 0, none⟩ = some (.int .i64 y.f0) := fun p => cell_after p.below (cell_after (hbg ▸ HB4.out) (HCC.out 0 _ rfl))
        have z1 : ∀ p : Later w4, p.wx.cell? ⟨g, o + m * 4 + 1, none⟩ = some (.slice B1 y.f1.length d1) := fun p => cell_after p.below (cell_after (hbg ▸ HB4.out) (HCC.out 1 _ rfl))
        have z2 : ∀ p : Later w4, p.wx.cell? ⟨g, o + m * 4 + 2, none⟩ = some (.slice B2 y.f2.length d2) := fun p => cell_after p.below (cell_after (hbg ▸ HB4.out) (HCC.out 2 _ rfl))
        have z3 : ∀ p : Later w4, p.wx.cell? ⟨g, o + m * 4 + 3, none⟩ = some (.slice B3 y.f3.length d3) := fun p => cell_after p.below (cell_after (hbg ▸ HB4.out) (HCC.out 3 _ rfl))
        simp only [Nat.add_zero] at z0
        obtain ⟨wd, hwd⟩ : ∃ z, w4.drew = z := ⟨_, rfl⟩
        have HLW : Aside0 (Below w4.heap.size w4 wd) := ⟨hwd ▸ below_drew1 (Below.refl _ _)⟩
        refine wp_region_held (S := fun w' => ∃ p : Later w4, w' = p.wx) (by kernel_rfl) ?_
        change wpAnyH _ _ _ _ _ _ _ _ (World.drew _)
        rw [hwd]
        clear hwd
        iterate 6 ((first | refine takeR (i := 0) (by decide +kernel) (by rfl) ?_ ?_ ?_ | refine takeR (i := 1) (by decide +kernel) (by rfl) ?_ ?_ ?_ | refine takeR (i := 2) (by decide +kernel) (by rfl) ?_ ?_ ?_ | refine takeR (i := 3) (by decide +kernel) (by rfl) ?_ ?_ ?_ | refine takeR (i := 4) (by decide +kernel) (by rfl) ?_ ?_ ?_ | refine takeR (i := 5) (by decide +kernel) (by rfl) ?_ ?_ ?_); (focus first | exact fun _ _ _ _ h => h | exact fun _ _ _ _ h => HPQ.out _ _ _ _ (by rfl) h); (focus exact ⟨⟨_, HLW.out⟩, rfl⟩); intro K hK; go_simp; (with_reducible refine hK _ ?_); clear hK K)
        refine hall1 (i := 6) (by kernel_rfl) (by rfl) (fun K hK => ?_)
        go_simp
        refine (HX.out y (List.mem_of_getElem? HY.out) AT AR ct cr nR W _ _ (join_below (hbg ▸ HB4.out) HLW.out) HKY.out (Kd.C_below HT.out (join_below (hbg ▸ HB4.out) HLW.out))).mono ?_
        rintro e w5 ⟨rfl, hd⟩
        have HB5 : Aside0 (Below w4.heap.size w4 w5) := ⟨join_below HLW.out hd⟩
        clear hd g0 g1 y3 z0 z1 z2 z3
        refine hK _ _ ⟨⟨_, HB5.out⟩, rfl⟩ ?_
        clear hK K
        (refine takeR (i := 7) (by kernel_rfl) (by rfl) ?_ ?_ ?_; (focus first | exact fun _ _ _ _ h => h | exact fun _ _ _ _ h => HPQ.out _ _ _ _ (by rfl) h); (focus exact ⟨⟨_, HB5.out⟩, rfl⟩); intro K hK; go_simp; (with_reducible refine hK _ ?_); clear hK K)
        refine wpAnyH_done (by kernel_rfl) ?_ _
        have HAT := Aside0.mk ((nodeL_at T HY.out).symm.trans HS.out.2)
        obtain ⟨r3, hr3⟩ : ∃ z, nodeR T y = z := ⟨_, rfl⟩
        have HR1 := Aside0.mk hr3
        rw [hr3] at HAT ⊢
        clear hr3 HLW
        cases r3 with
        | some c =>
         have hne := nodeR_ne T y c HR1.out
         have e1 : (codeI (some c) == 0) = false := beq_eq_false_iff_ne.2 hne
         have HRR : Aside0 (res = some c) := ⟨HAT.out.symm⟩
         clear hne
         go_wp2
         go_ret
         rw [HRR.out]
         exact ⟨rfl, hbg ▸ (join_below HB4.out HB5.out)⟩
        | none =>
         have e1 : (codeI none == 0) = true := rfl
         have HA2 : Aside0 (nodeL T (x.f3.drop (m + 1)) = res) := ⟨HAT.out⟩
         clear HAT
         go_wp2
         go_roundw
         case rel => exact ⟨m + 1, by go_num, HLT.out, ⟨⟨join_below HS.out.1 HB5.out, HA2.out⟩⟩⟩
         case measure => have := HLT.out; simp [intOf]; omega
      · have e1 : decide (m < x.f3.length) = false := decide_eq_false hlt
        have HRR : Aside0 (res = none) := ⟨by
         have h := HS.out.2
         rw [List.drop_of_length_le (by omega)] at h
         exact h.symm⟩
        clear hlt
        go_wp2
        go_ret
        rw [HRR.out]
        exact ⟨rfl, hbg ▸ (join_below HB3.out HS.out.1)⟩
 · have HRR : Aside0 (res = some 5) := ⟨by
    have h := HR.out
    rw [if_neg hs] at h
    exact h.symm⟩
   have hs2 : shapedS x = false := by simpa using hs
   rw [hs2]
   clear hs hs2 y0 y1 y2 y3
   go_wp2
   go_ret
   rw [HRR.out]
   exact ⟨rfl, hbg ▸ HB0.out⟩
theorem rpat_all (T : List Tok) : ∀ (N : Nat) (x : Pt), SizeOf.sizeOf x < N → RPatC T x
 | 0, x, h => absurd h (Nat.not_lt_zero _)
 | N + 1, x, h => rpat_go T x (fun y hy => rpat_all T N y (by
     have h1 := List.sizeOf_lt_of_mem hy
     have h2 : SizeOf.sizeOf x.f3 < SizeOf.sizeOf x := by
      cases x
      simp
      omega
     omega))
theorem rpat_any (T : List Tok) (x : Pt) : RPatC T x := rpat_all T (SizeOf.sizeOf x + 1) x (Nat.lt_succ_self _)
end Go.Proofs.YthdfmbmbjpmlaaaGreatDoor.Rn
end
section
set_option linter.unusedVariables false
set_option linter.unusedSimpArgs false
namespace Go.Proofs.YthdfmbmbjpmlaaaGreatDoor.Rn
open Go Go.RowKit Go.Proofs.YthdfmbmbjpmlaaaGreatDoorW.PrintWords Go.Proofs.YthdfmbmbjpmlaaaGreatDoorW.PrintLast Go.Proofs.YthdfmbmbjpmlaaaGreatDoorW.PrintMore
def eqL {α : Type} (q : α → α → Bool) : List α → List α → Bool
 | [], [] => true
 | x :: l, y :: m => q x y && eqL q l m
 | _, _ => false
theorem eqL_len {α : Type} (q : α → α → Bool) : ∀ {l m : List α}, l.length ≠ m.length → eqL q l m = false
 | [], [], h => absurd rfl h
 | [], _ :: _, _ => rfl
 | _ :: _, [], _ => rfl
 | x :: l, y :: m, h => by
  rw [eqL, eqL_len q (fun e => h (by simp [e])), Bool.and_false]
theorem eqL_drop {α : Type} (q : α → α → Bool) {l m : List α} {k : Nat} (h1 : k < l.length) (h2 : k < m.length) : eqL q (l.drop k) (m.drop k) = (q l[k] m[k] && eqL q (l.drop (k + 1)) (m.drop (k + 1))) := by
 rw [List.drop_eq_getElem_cons h1, List.drop_eq_getElem_cons h2, eqL]
set_option maxHeartbeats 1000000 in
set_option maxRecDepth 100000 in
theorem pats_equal (q : S47 → S47 → Bool) (xs ys : List S47) (A B : Option Addr) (c d : Nat) (w0 w : World) (hA : k47.C w0 A xs.length xs) (hB : k47.C w0 B ys.length ys) (hw : Below w0.heap.size w0 w)
 (hq : ∀ x y cs ds W, x ∈ xs → y ∈ ys → Below w0.heap.size w0 W → k47.K w0 x cs → k47.K w0 y ds → Calls Tryz.prog 63 #[.agg cs.toArray, .agg ds.toArray] W fun e W' => e = .returned (.bool (q x y)) ∧ Below W.heap.size W W') :
 Calls Tryz.prog 74 #[.slice A xs.length c, .slice B ys.length d, .func (.func 63) #[] #[]] w fun e W' => e = .returned (.bool (eqL q xs ys)) ∧ Below w.heap.size w W' := by
 have hl : xs.length ≤ 9223372036854775807 := hA.2.1
 have hm : ys.length ≤ 9223372036854775807 := hB.2.1
 obtain ⟨res, hres⟩ : ∃ r, eqL q xs ys = r := ⟨_, rfl⟩
 rw [hres]
 have HA := Aside0.mk hA
 have HC := Aside0.mk hB
 have HQ := Aside0.mk hq
 have HW := Aside0.mk hw
 have HR := Aside0.mk hres
 clear hA hB hq hw hres
 by_cases hlen : xs.length = ys.length
 · have hmm : ((xs.length : Int) != (ys.length : Int)) = false := by rw [hlen]; simp
   have HL := Aside0.mk hlen
   clear hlen
   go_enter Tryz.func74, Tryz.ntmps74
   go_wp2
   go_loopw [17] (fun i W => ∃ k : Nat, i = .int .i64 k ∧ k ≤ xs.length ∧ Aside0 (Below w.heap.size w W) ∧ Aside0 (eqL q (xs.drop k) (ys.drop k) = res)) (fun i _ => xs.length - (intOf i).toNat)
   case atStart => exact ⟨0, rfl, Nat.zero_le _, ⟨Below.refl _ _⟩, ⟨HR.out⟩⟩
   case round =>
    obtain ⟨k, rfl, hkl, HI, HE⟩ := hrel
    by_cases hlt : k < xs.length
    · have hlt2 : k < ys.length := by have := HL.out; omega
      have HN := Aside0.mk (eqL_drop q hlt hlt2)
      have HB0 := Aside0.mk (join_below HW.out HI.out)
      obtain ⟨g, o, rfl, _, hcell⟩ := row_cells HA.out (by omega) (by decide)
      obtain ⟨g2, o2, rfl, _, hcell2⟩ := row_cells HC.out (by omega) (by decide)
      have hx : xs[k]? = some xs[k] := List.getElem?_eq_getElem hlt
      have hy : ys[k]? = some ys[k] := List.getElem?_eq_getElem hlt2
      have HMX := Aside0.mk (List.getElem_mem hlt)
      have HMY := Aside0.mk (List.getElem_mem hlt2)
      generalize xs[k] = x at hx HMX HN
      generalize ys[k] = y at hy HMY HN
      obtain ⟨cs, hcl, hK, hcc⟩ := hcell k x hx
      obtain ⟨ds, hdl, hK2, hcd⟩ := hcell2 k y hy
      have HK := Aside0.mk hK
      have HK2 := Aside0.mk hK2
      obtain ⟨A1, c1, A2, c2, A3, c3, rfl, l1, g1, l2, g2, l3, g3⟩ := k47_open hK
      obtain ⟨B1, d1, B2, d2, B3, d3, rfl, m1, h1, m2, h2, m3, h3⟩ := k47_open hK2
      have y0 := cell_after HB0.out (hcc 0 (.int .i64 x.f0) rfl)
      have z0 := fun ob => cell_after (below_alloc HB0.out ob) (hcd 0 (.int .i64 y.f0) rfl)
      rw [Nat.add_zero] at y0
      simp only [Nat.add_zero] at z0
      have y1 := cell_after HB0.out (hcc 1 (.slice A1 x.f1.length c1) rfl)
      have z1 := fun ob => cell_after (below_alloc HB0.out ob) (hcd 1 (.slice B1 y.f1.length d1) rfl)
      have y2 := cell_after HB0.out (hcc 2 (.slice A2 x.f2.length c2) rfl)
      have z2 := fun ob => cell_after (below_alloc HB0.out ob) (hcd 2 (.slice B2 y.f2.length d2) rfl)
      have y3 := cell_after HB0.out (hcc 3 (.slice A3 x.f3.length c3) rfl)
      have z3 := fun ob => cell_after (below_alloc HB0.out ob) (hcd 3 (.slice B3 y.f3.length d3) rfl)
      simp only [show k47.sz = 4 from rfl] at y0 z0 y1 z1 y2 z2 y3 z3
      clear hcell hcc hcell2 hcd hx hy hK hK2 hcl hdl
      go_wp2_with fail
      refine (HQ.out x y _ _ _ HMX.out HMY.out (below_alloc (below_alloc HB0.out _) _) HK.out HK2.out).mono ?_
      rintro e w2 ⟨rfl, hb⟩
      have HI2 := Aside0.mk (join_below HI.out (join_below (below_alloc (below1 _ _) _) hb))
      clear hb
      have he := HE.out
      rw [HN.out] at he
      cases hqq : q x y
      · rw [hqq, Bool.false_and] at he
        have HF := Aside0.mk he
        clear he hqq
        go_wp2
        go_ret
        exact ⟨by rw [← HF.out]; rfl, HI2.out⟩
      · rw [hqq, Bool.true_and] at he
        have HF := Aside0.mk he
        clear he hqq
        go_wp2
        go_roundw
        case rel => exact ⟨k + 1, by go_num, by omega, HI2, HF⟩
        case measure => simp [intOf]; omega
    · have he := HE.out
      rw [List.drop_of_length_le (by omega), List.drop_of_length_le (by have := HL.out; omega)] at he
      have HF := Aside0.mk he
      clear he
      go_wp2
      go_ret
      exact ⟨by rw [← HF.out]; rfl, HI.out⟩
 · have hmm : ((xs.length : Int) != (ys.length : Int)) = true := by simp; omega
   have HF := Aside0.mk (eqL_len q hlen)
   have hne : ¬ ((xs.length : Int) = (ys.length : Int)) := by omega
   clear hlen
   go_enter Tryz.func74, Tryz.ntmps74
   go_wp2
   go_ret
   exact ⟨by rw [← HR.out, HF.out]; rfl, Below.refl _ _⟩
set_option maxHeartbeats 1000000 in
set_option maxRecDepth 100000 in
theorem res_equal (q : S38 → S38 → Bool) (xs ys : List S38) (A B : Option Addr) (c d : Nat) (w0 w : World) (hA : k38.C w0 A xs.length xs) (hB : k38.C w0 B ys.length ys) (hw : Below w0.heap.size w0 w)
 (hq : ∀ x y cs ds W, x ∈ xs → y ∈ ys → Below w0.heap.size w0 W → k38.K w0 x cs → k38.K w0 y ds → Calls Tryz.prog 30 #[.agg cs.toArray, .agg ds.toArray] W fun e W' => e = .returned (.bool (q x y)) ∧ Below W.heap.size W W') :
 Calls Tryz.prog 59 #[.slice A xs.length c, .slice B ys.length d, .func (.func 30) #[] #[]] w fun e W' => e = .returned (.bool (eqL q xs ys)) ∧ Below w.heap.size w W' := by
 have hl : xs.length ≤ 9223372036854775807 := hA.2.1
 have hm : ys.length ≤ 9223372036854775807 := hB.2.1
 obtain ⟨res, hres⟩ : ∃ r, eqL q xs ys = r := ⟨_, rfl⟩
 rw [hres]
 have HA := Aside0.mk hA
 have HC := Aside0.mk hB
 have HQ := Aside0.mk hq
 have HW := Aside0.mk hw
 have HR := Aside0.mk hres
 clear hA hB hq hw hres
 by_cases hlen : xs.length = ys.length
 · have hmm : ((xs.length : Int) != (ys.length : Int)) = false := by rw [hlen]; simp
   have HL := Aside0.mk hlen
   clear hlen
   go_enter Tryz.func59, Tryz.ntmps59
   go_wp2
   go_loopw [17] (fun i W => ∃ k : Nat, i = .int .i64 k ∧ k ≤ xs.length ∧ Aside0 (Below w.heap.size w W) ∧ Aside0 (eqL q (xs.drop k) (ys.drop k) = res)) (fun i _ => xs.length - (intOf i).toNat)
   case atStart => exact ⟨0, rfl, Nat.zero_le _, ⟨Below.refl _ _⟩, ⟨HR.out⟩⟩
   case round =>
    obtain ⟨k, rfl, hkl, HI, HE⟩ := hrel
    by_cases hlt : k < xs.length
    · have hlt2 : k < ys.length := by have := HL.out; omega
      have HN := Aside0.mk (eqL_drop q hlt hlt2)
      have HB0 := Aside0.mk (join_below HW.out HI.out)
      obtain ⟨g, o, rfl, _, hcell⟩ := row_cells HA.out (by omega) (by decide)
      obtain ⟨g2, o2, rfl, _, hcell2⟩ := row_cells HC.out (by omega) (by decide)
      have hx : xs[k]? = some xs[k] := List.getElem?_eq_getElem hlt
      have hy : ys[k]? = some ys[k] := List.getElem?_eq_getElem hlt2
      have HMX := Aside0.mk (List.getElem_mem hlt)
      have HMY := Aside0.mk (List.getElem_mem hlt2)
      generalize xs[k] = x at hx HMX HN
      generalize ys[k] = y at hy HMY HN
      obtain ⟨cs, hcl, hK, hcc⟩ := hcell k x hx
      obtain ⟨ds, hdl, hK2, hcd⟩ := hcell2 k y hy
      have HK := Aside0.mk hK
      have HK2 := Aside0.mk hK2
      obtain ⟨A1, c1, A2, c2, rfl, l1, g1, l2, g2⟩ := k38_open hK
      obtain ⟨B1, d1, B2, d2, rfl, m1, h1, m2, h2⟩ := k38_open hK2
      have y0 := cell_after HB0.out (hcc 0 (.int .i64 x.f0) rfl)
      have z0 := fun ob => cell_after (below_alloc HB0.out ob) (hcd 0 (.int .i64 y.f0) rfl)
      rw [Nat.add_zero] at y0
      simp only [Nat.add_zero] at z0
      have y1 := cell_after HB0.out (hcc 1 (.slice A1 x.f1.length c1) rfl)
      have z1 := fun ob => cell_after (below_alloc HB0.out ob) (hcd 1 (.slice B1 y.f1.length d1) rfl)
      have y2 := cell_after HB0.out (hcc 2 (.slice A2 x.f2.length c2) rfl)
      have z2 := fun ob => cell_after (below_alloc HB0.out ob) (hcd 2 (.slice B2 y.f2.length d2) rfl)
      simp only [show k38.sz = 3 from rfl] at y0 z0 y1 z1 y2 z2
      clear hcell hcc hcell2 hcd hx hy hK hK2 hcl hdl
      go_wp2_with fail
      refine (HQ.out x y _ _ _ HMX.out HMY.out (below_alloc (below_alloc HB0.out _) _) HK.out HK2.out).mono ?_
      rintro e w2 ⟨rfl, hb⟩
      have HI2 := Aside0.mk (join_below HI.out (join_below (below_alloc (below1 _ _) _) hb))
      clear hb
      have he := HE.out
      rw [HN.out] at he
      cases hqq : q x y
      · rw [hqq, Bool.false_and] at he
        have HF := Aside0.mk he
        clear he hqq
        go_wp2
        go_ret
        exact ⟨by rw [← HF.out]; rfl, HI2.out⟩
      · rw [hqq, Bool.true_and] at he
        have HF := Aside0.mk he
        clear he hqq
        go_wp2
        go_roundw
        case rel => exact ⟨k + 1, by go_num, by omega, HI2, HF⟩
        case measure => simp [intOf]; omega
    · have he := HE.out
      rw [List.drop_of_length_le (by omega), List.drop_of_length_le (by have := HL.out; omega)] at he
      have HF := Aside0.mk he
      clear he
      go_wp2
      go_ret
      exact ⟨by rw [← HF.out]; rfl, HI.out⟩
 · have hmm : ((xs.length : Int) != (ys.length : Int)) = true := by simp; omega
   have HF := Aside0.mk (eqL_len q hlen)
   have hne : ¬ ((xs.length : Int) = (ys.length : Int)) := by omega
   clear hlen
   go_enter Tryz.func59, Tryz.ntmps59
   go_wp2
   go_ret
   exact ⟨by rw [← HR.out, HF.out]; rfl, Below.refl _ _⟩
end Go.Proofs.YthdfmbmbjpmlaaaGreatDoor.Rn
end
section
set_option linter.unusedVariables false
set_option linter.unusedSimpArgs false
namespace Go.Proofs.YthdfmbmbjpmlaaaGreatDoor.Rn
open Go Go.RowKit Go.Proofs.YthdfmbmbjpmlaaaGreatDoorW.PrintWords Go.Proofs.YthdfmbmbjpmlaaaGreatDoorW.PrintLast Go.Proofs.YthdfmbmbjpmlaaaGreatDoorW.PrintMore
def rgQ (x y : S80) : Bool := (x.f0 == y.f0) && (x.f1 == y.f1)
theorem rd_rgq (l : List S80) (i : Nat) (hi : i < l.length) : rd_T80 l (i : Int) = l[i] := by
 unfold rd_T80
 rw [Int.toNat_natCast, List.getD_eq_getElem?_getD, List.getElem?_eq_getElem hi]
 rfl
theorem eqrg_l (l m : List S80) (hlm : l.length = m.length) (hl : l.length ≤ 9223372036854775807) (d : Nat) : ∀ (k i : Nat), i ≤ l.length → l.length - i = d → d < k → api_Range.l0 k l m (l.length : Int) (i : Int) = some (eqL rgQ (l.drop i) (m.drop i)) := by
 induction d with
 | zero =>
  intro k i h1 h2 hk
  obtain ⟨k, rfl⟩ : ∃ m, k = m + 1 := ⟨k - 1, by omega⟩
  simp only [api_Range.l0]
  rw [if_neg (by omega), List.drop_of_length_le (by omega), List.drop_of_length_le (by omega)]
  rfl
 | succ d ih =>
  intro k i h1 h2 hk
  obtain ⟨k, rfl⟩ : ∃ m, k = m + 1 := ⟨k - 1, by omega⟩
  have hi : i < l.length := by omega
  have hj : i < m.length := by omega
  simp only [api_Range.l0]
  have e2 : wrap64 ((i : Int) + 1) = ((i + 1 : Nat) : Int) := by unfold wrap64; omega
  have hi2 := ih k (i + 1) (by omega) (by omega) (by omega)
  rw [if_pos (by omega), if_pos (by omega), if_pos (by omega), if_pos (by omega), rd_rgq l i hi, rd_rgq m i hj, eqL_drop rgQ hi hj, e2, hi2]
  obtain ⟨x, hx⟩ : ∃ x, l[i] = x := ⟨_, rfl⟩
  obtain ⟨y, hy⟩ : ∃ y, m[i] = y := ⟨_, rfl⟩
  rw [hx, hy]
  clear hx hy hi2 ih e2 h1 h2 hk hi hj
  unfold rgQ
  by_cases h0 : x.f0 = y.f0
  · by_cases h3 : x.f1 = y.f1
    · rw [if_neg (by simp [h0, h3])]
      simp [h0, h3]
    · rw [if_pos (by simp [h0, h3])]
      simp [h0, h3]
  · rw [if_pos (by simp [h0])]
    simp [h0]
theorem eqrg_any (l m : List S80) (A B : Option Addr) (c d : Nat) (w : World) (hA : k80.C w A l.length l) (hB : k80.C w B m.length m) (hc : l.length ≤ c) (hd : m.length ≤ d) :
 Calls Tryz.prog 58 #[.slice A l.length c, .slice B m.length d] w fun e w' => e = .returned (.bool (eqL rgQ l m)) ∧ Below w.heap.size w w' := by
 have hl : l.length ≤ 9223372036854775807 := hA.2.1
 have e : api_Range.f (l.length + 1) l m = some (eqL rgQ l m) := by
  unfold api_Range.f
  by_cases h : l.length = m.length
  · rw [if_pos (by omega)]
    exact eqrg_l l m h hl l.length (l.length + 1) 0 (by omega) (by omega) (by omega)
  · rw [if_neg (by omega), eqL_len _ h]
 refine (api_Range.calls (l.length + 1) A c l B d m _ w hA hc hB hd e).mono ?_
 rintro e w' ⟨rfl, h⟩
 exact ⟨rfl, h.below⟩
mutual
/-- the same expression -/
def sameRe : Re → Re → Bool
 | ⟨a, s, l⟩, y => (a == y.f0) && (eqL rgQ s y.f1 && sameRl l y.f2)
def sameRl : List Re → List Re → Bool
 | [], [] => true
 | x :: l, y :: m => sameRe x y && sameRl l m
 | [], _ :: _ => false
 | _ :: _, [] => false
end
theorem sameRl_eq : ∀ l m : List Re, sameRl l m = eqL sameRe l m
 | [], [] => by simp only [sameRl, eqL]
 | x :: l, y :: m => by
  simp only [sameRl, eqL]
  rw [sameRl_eq l m]
 | [], _ :: _ => by simp only [sameRl, eqL]
 | _ :: _, [] => by simp only [sameRl, eqL]
def SameRC (x : Re) : Prop := ∀ (y : Re) (w0 W : World) (cs ds : List Value), Below w0.heap.size w0 W → kRe.K w0 x cs → kRe.K w0 y ds →
    Calls Tryz.prog 30 #[.agg cs.toArray, .agg ds.toArray] W fun e W' => e = .returned (.bool (sameRe x y)) ∧ Below W.heap.size W W'
set_option maxHeartbeats 2000000 in
set_option maxRecDepth 100000 in
theorem same_re_go (x : Re) (hx : ∀ z, z ∈ x.f2 → SameRC z) : SameRC x := by
 intro y w0 W cs ds hB hK hK2
 obtain ⟨A1, c1, A2, c2, rfl, l1, g1, l2, g2⟩ := k38_open hK
 obtain ⟨B1, d1, B2, d2, rfl, m1, h1, m2, h2⟩ := k38_open hK2
 obtain ⟨res, hres⟩ : ∃ r, sameRe x y = r := ⟨_, rfl⟩
 have hv : sameRe x y = ((x.f0 == y.f0) && (eqL rgQ x.f1 y.f1 && eqL sameRe x.f2 y.f2)) := by
  cases x
  rw [sameRe, sameRl_eq]
 rw [hres]
 have HR : Aside0 (((x.f0 == y.f0) && (eqL rgQ x.f1 y.f1 && eqL sameRe x.f2 y.f2)) = res) := ⟨hv.symm.trans hres⟩
 have HG := Aside0.mk (And.intro (And.intro g1 h1) (And.intro g2 h2))
 have HM := Aside0.mk (And.intro (And.intro l1 m1) (And.intro l2 m2))
 have HX := Aside0.mk hx
 have HB := Aside0.mk hB
 clear hB hK hK2 hx g1 g2 h1 h2 l1 l2 m1 m2 hres hv
 by_cases c0 : x.f0 = y.f0
 · have hr := HR.out
   rw [beq_iff_eq.2 c0, Bool.true_and] at hr
   have HR2 := Aside0.mk hr
   clear hr HR
   obtain ⟨w1, hw1⟩ : ∃ w1, (W.alloc (.cells #[.int .i64 x.f0, .slice A1 x.f1.length c1, .slice A2 x.f2.length c2] 38)).alloc (.cells #[.int .i64 y.f0, .slice B1 y.f1.length d1, .slice B2 y.f2.length d2] 38) = w1 := ⟨_, rfl⟩
   have hB1 : Below W.heap.size W w1 := hw1 ▸ below_alloc (below1 W _) _
   have hn1 : w1.heap[W.heap.size]? = some (.cells #[.int .i64 x.f0, .slice A1 x.f1.length c1, .slice A2 x.f2.length c2] 38 (0, 0)) := by rw [← hw1]; exact blk_alloc (blk_new _ _) _
   have hn2 : w1.heap[W.heap.size + 1]? = some (.cells #[.int .i64 y.f0, .slice B1 y.f1.length d1, .slice B2 y.f2.length d2] 38 (0, 0)) := by
    have h := blk_new (W.alloc (.cells #[.int .i64 x.f0, .slice A1 x.f1.length c1, .slice A2 x.f2.length c2] 38)) (.cells #[.int .i64 y.f0, .slice B1 y.f1.length d1, .slice B2 y.f2.length d2] 38)
    rw [hw1] at h
    simpa using h
   have HN1 := Aside0.mk hn1
   have HN2 := Aside0.mk hn2
   have HB1 := Aside0.mk hB1
   have hee : (x.f0 == y.f0) = true := beq_iff_eq.2 c0
   have y0 : w1.cell? ⟨W.heap.size, 0, none⟩ = some (.int .i64 x.f0) := (blk_cell hn1 0).trans rfl
   have z0 : w1.cell? ⟨W.heap.size + 1, 0, none⟩ = some (.int .i64 y.f0) := (blk_cell hn2 0).trans rfl
   have y1 : w1.cell? ⟨W.heap.size, 1, none⟩ = some (.slice A1 x.f1.length c1) := (blk_cell hn1 1).trans rfl
   have z1 : w1.cell? ⟨W.heap.size + 1, 1, none⟩ = some (.slice B1 y.f1.length d1) := (blk_cell hn2 1).trans rfl
   clear hB1 hn1 hn2 c0
   go_enter Tryz.func30, Tryz.ntmps30
   go_wp2_with fail
   clear hw1
   have q1 := join_below HB.out HB1.out
   refine (eqrg_any x.f1 y.f1 A1 B1 c1 d1 _ (Kd.C_below HG.out.1.1 q1) (Kd.C_below HG.out.1.2 q1) HM.out.1.1 HM.out.1.2).mono ?_
   rintro e w2 ⟨rfl, hb⟩
   have HB2 := Aside0.mk (join_below HB1.out hb)
   have hn1 := blk_below HN1.out hb
   have hn2 := blk_below HN2.out hb
   have y2 : w2.cell? ⟨W.heap.size, 2, none⟩ = some (.slice A2 x.f2.length c2) := (blk_cell hn1 2).trans rfl
   have z2 : w2.cell? ⟨W.heap.size + 1, 2, none⟩ = some (.slice B2 y.f2.length d2) := (blk_cell hn2 2).trans rfl
   clear hb q1 hn1 hn2
   have hr := HR2.out
   cases hq : eqL rgQ x.f1 y.f1
   · rw [hq, Bool.false_and] at hr
     have HF := Aside0.mk hr
     clear hr hq
     go_wp2
     go_ret
     exact ⟨by rw [← HF.out]; rfl, HB2.out⟩
   · rw [hq, Bool.true_and] at hr
     have HF := Aside0.mk hr
     clear hr hq
     go_wp2_with fail
     refine (res_equal sameRe x.f2 y.f2 A2 B2 c2 d2 w0 _ HG.out.2.1 HG.out.2.2 (join_below HB.out HB2.out) (fun a b cs ds W' ha hb hB' hK hK2 => HX.out a ha b w0 W' cs ds hB' hK hK2)).mono ?_
     rintro e w3 ⟨rfl, hb⟩
     have HB3 := Aside0.mk (join_below HB2.out hb)
     clear hb
     go_wp2
     go_ret
     exact ⟨by rw [← HF.out]; rfl, HB3.out⟩
 · have hr := HR.out
   rw [beq_eq_false_iff_ne.2 c0, Bool.false_and] at hr
   have HF := Aside0.mk hr
   have hee : (x.f0 == y.f0) = false := beq_eq_false_iff_ne.2 c0
   clear hr HR c0
   go_enter Tryz.func30, Tryz.ntmps30
   go_wp2
   go_ret
   exact ⟨by rw [← HF.out]; rfl, below_alloc (below1 _ _) _⟩
theorem same_re_all : ∀ (N : Nat) (x : Re), SizeOf.sizeOf x < N → SameRC x
 | 0, x, h => absurd h (Nat.not_lt_zero _)
 | N + 1, x, h => same_re_go x (fun y hy => same_re_all N y (by
     have h1 := List.sizeOf_lt_of_mem hy
     have h2 : SizeOf.sizeOf x.f2 < SizeOf.sizeOf x := by
      cases x
      simp
      omega
     omega))
theorem same_re (x : Re) : SameRC x := same_re_all (SizeOf.sizeOf x + 1) x (Nat.lt_succ_self _)
end Go.Proofs.YthdfmbmbjpmlaaaGreatDoor.Rn
end
section
set_option linter.unusedVariables false
set_option linter.unusedSimpArgs false
namespace Go.Proofs.YthdfmbmbjpmlaaaGreatDoor.Rn
open Go Go.RowKit Go.Proofs.YthdfmbmbjpmlaaaGreatDoorW.PrintWords Go.Proofs.YthdfmbmbjpmlaaaGreatDoorW.PrintLast Go.Proofs.YthdfmbmbjpmlaaaGreatDoorW.PrintMore
def txQ (a b : ByteArray) : Bool := decide (a = b)
theorem eqtx_l (l m : List ByteArray) (hlm : l.length = m.length) (hl : l.length ≤ 9223372036854775807) (d : Nat) : ∀ (k i : Nat), i ≤ l.length → l.length - i = d → d < k → slices_Equal_string_string.l0 k l m (l.length : Int) (i : Int) = some (eqL txQ (l.drop i) (m.drop i)) := by
 induction d with
 | zero =>
  intro k i h1 h2 hk
  obtain ⟨k, rfl⟩ : ∃ m, k = m + 1 := ⟨k - 1, by omega⟩
  simp only [slices_Equal_string_string.l0]
  rw [if_neg (by omega), List.drop_of_length_le (by omega), List.drop_of_length_le (by omega)]
  rfl
 | succ d ih =>
  intro k i h1 h2 hk
  obtain ⟨k, rfl⟩ : ∃ m, k = m + 1 := ⟨k - 1, by omega⟩
  have hi : i < l.length := by omega
  have hj : i < m.length := by omega
  simp only [slices_Equal_string_string.l0]
  have e2 : wrap64 ((i : Int) + 1) = ((i + 1 : Nat) : Int) := by unfold wrap64; omega
  have hi2 := ih k (i + 1) (by omega) (by omega) (by omega)
  rw [if_pos (by omega), if_pos (by omega), if_pos (by omega), if_pos (by omega), rdOf_at l i hi, rdOf_at m i hj, eqL_drop txQ hi hj, e2, hi2]
  obtain ⟨x, hx⟩ : ∃ x, l[i] = x := ⟨_, rfl⟩
  obtain ⟨y, hy⟩ : ∃ y, m[i] = y := ⟨_, rfl⟩
  rw [hx, hy]
  clear hx hy hi2 ih e2 h1 h2 hk hi hj
  unfold txQ
  by_cases h0 : x = y
  · subst h0
    simp
  · have h1 : ¬ (x.toList = y.toList) := fun e => h0 (text_ext e)
    simp [h0, h1]
theorem eqtx_any (l m : List ByteArray) (A B : Option Addr) (c d : Nat) (w : World) (hA : Kd.string.C w A l.length l) (hB : Kd.string.C w B m.length m) (hc : l.length ≤ c) (hd : m.length ≤ d) :
 Calls Tryz.prog 62 #[.slice A l.length c, .slice B m.length d] w fun e w' => e = .returned (.bool (eqL txQ l m)) ∧ Below w.heap.size w w' := by
 have hl : l.length ≤ 9223372036854775807 := hA.2.1
 have e : slices_Equal_string_string.f (l.length + 1) l m = some (eqL txQ l m) := by
  unfold slices_Equal_string_string.f
  by_cases h : l.length = m.length
  · rw [if_pos (by omega)]
    exact eqtx_l l m h hl l.length (l.length + 1) 0 (by omega) (by omega) (by omega)
  · rw [if_neg (by omega), eqL_len _ h]
 refine (slices_Equal_string_string.calls (l.length + 1) A c l B d m _ w hA hc hB hd e).mono ?_
 rintro e w' ⟨rfl, h⟩
 exact ⟨rfl, h.below⟩
mutual
/-- the same pattern -/
def samePt : Pt → Pt → Bool
 | ⟨a, s, t, l⟩, y => (a == y.f0) && (eqL txQ s y.f1 && (eqL txQ t y.f2 && samePl l y.f3))
def samePl : List Pt → List Pt → Bool
 | [], [] => true
 | x :: l, y :: m => samePt x y && samePl l m
 | [], _ :: _ => false
 | _ :: _, [] => false
end
theorem samePl_eq : ∀ l m : List Pt, samePl l m = eqL samePt l m
 | [], [] => by simp only [samePl, eqL]
 | x :: l, y :: m => by
  simp only [samePl, eqL]
  rw [samePl_eq l m]
 | [], _ :: _ => by simp only [samePl, eqL]
 | _ :: _, [] => by simp only [samePl, eqL]
theorem samePt_is (x y : Pt) : samePt x y = ((x.f0 == y.f0) && (eqL txQ x.f1 y.f1 && (eqL txQ x.f2 y.f2 && eqL samePt x.f3 y.f3))) := by
 cases x
 rw [samePt, samePl_eq]
def SamePC (x : Pt) : Prop := ∀ (y : Pt) (w0 W : World) (cs ds : List Value), Below w0.heap.size w0 W → kPt.K w0 x cs → kPt.K w0 y ds →
    Calls Tryz.prog 63 #[.agg cs.toArray, .agg ds.toArray] W fun e W' => e = .returned (.bool (samePt x y)) ∧ Below W.heap.size W W'
set_option maxHeartbeats 2000000 in
set_option maxRecDepth 100000 in
theorem same_pt_go (x : Pt) (hx : ∀ z, z ∈ x.f3 → SamePC z) (y : Pt) (w0 W : World) (cs ds : List Value) (hB : Below w0.heap.size w0 W) (hK : k47.K w0 x cs) (hK2 : k47.K w0 y ds) :
 Calls Tryz.prog 63 #[.agg cs.toArray, .agg ds.toArray] W fun e W' => e = .returned (.bool (samePt x y)) ∧ Below W.heap.size W W' := by
 obtain ⟨A1, c1, A2, c2, A3, c3, rfl, l1, g1, l2, g2, l3, g3⟩ := k47_open hK
 obtain ⟨B1, d1, B2, d2, B3, d3, rfl, m1, h1, m2, h2, m3, h3⟩ := k47_open hK2
 obtain ⟨res, hres⟩ : ∃ r, samePt x y = r := ⟨_, rfl⟩
 have hv : samePt x y = ((x.f0 == y.f0) && ((eqL txQ x.f1 y.f1) && ((eqL txQ x.f2 y.f2) && (eqL samePt x.f3 y.f3)))) := samePt_is x y
 rw [hres]
 have HR : Aside0 (((x.f0 == y.f0) && ((eqL txQ x.f1 y.f1) && ((eqL txQ x.f2 y.f2) && (eqL samePt x.f3 y.f3)))) = res) := ⟨hv.symm.trans hres⟩
 have L1 := Aside0.mk l1
 have G1 := Aside0.mk g1
 have L2 := Aside0.mk l2
 have G2 := Aside0.mk g2
 have L3 := Aside0.mk l3
 have G3 := Aside0.mk g3
 have M1 := Aside0.mk m1
 have H1 := Aside0.mk h1
 have M2 := Aside0.mk m2
 have H2 := Aside0.mk h2
 have M3 := Aside0.mk m3
 have H3 := Aside0.mk h3
 have HB := Aside0.mk hB
 clear hB hK hK2 hres hv l1 g1 l2 g2 l3 g3 m1 h1 m2 h2 m3 h3
 by_cases q0 : (x.f0 == y.f0) = true
 rotate_left
 · have hr := HR.out
   rw [Bool.not_eq_true] at q0
   rw [q0, Bool.false_and] at hr
   have HF := Aside0.mk hr
   clear hr HR
   go_enter Tryz.func63, Tryz.ntmps63
   go_wp2
   go_ret
   exact ⟨by rw [← HF.out]; rfl, below_alloc (below1 _ _) _⟩
 have hr := HR.out
 rw [q0, Bool.true_and] at hr
 have HR2 := Aside0.mk hr
 clear hr HR
 obtain ⟨w1, hw1⟩ : ∃ w1, (W.alloc (.cells #[.int .i64 x.f0, .slice A1 x.f1.length c1, .slice A2 x.f2.length c2, .slice A3 x.f3.length c3] 47)).alloc (.cells #[.int .i64 y.f0, .slice B1 y.f1.length d1, .slice B2 y.f2.length d2, .slice B3 y.f3.length d3] 47) = w1 := ⟨_, rfl⟩
 have HB1 : Aside0 (Below W.heap.size W w1) := ⟨hw1 ▸ below_alloc (below1 W _) _⟩
 have hn1 : w1.heap[W.heap.size]? = some (.cells #[.int .i64 x.f0, .slice A1 x.f1.length c1, .slice A2 x.f2.length c2, .slice A3 x.f3.length c3] 47 (0, 0)) := by rw [← hw1]; exact blk_alloc (blk_new _ _) _
 have hn2 : w1.heap[W.heap.size + 1]? = some (.cells #[.int .i64 y.f0, .slice B1 y.f1.length d1, .slice B2 y.f2.length d2, .slice B3 y.f3.length d3] 47 (0, 0)) := by
  have h := blk_new (W.alloc (.cells #[.int .i64 x.f0, .slice A1 x.f1.length c1, .slice A2 x.f2.length c2, .slice A3 x.f3.length c3] 47)) (.cells #[.int .i64 y.f0, .slice B1 y.f1.length d1, .slice B2 y.f2.length d2, .slice B3 y.f3.length d3] 47)
  rw [hw1] at h
  simpa using h
 have HN1 := Aside0.mk hn1
 have HN2 := Aside0.mk hn2
 have y0 : w1.cell? ⟨W.heap.size, 0, none⟩ = some (.int .i64 x.f0) := (blk_cell hn1 0).trans rfl
 have z0 : w1.cell? ⟨W.heap.size + 1, 0, none⟩ = some (.int .i64 y.f0) := (blk_cell hn2 0).trans rfl
 have y1 : w1.cell? ⟨W.heap.size, 1, none⟩ = some (.slice A1 x.f1.length c1) := (blk_cell hn1 1).trans rfl
 have z1 : w1.cell? ⟨W.heap.size + 1, 1, none⟩ = some (.slice B1 y.f1.length d1) := (blk_cell hn2 1).trans rfl
 have y2 : w1.cell? ⟨W.heap.size, 2, none⟩ = some (.slice A2 x.f2.length c2) := (blk_cell hn1 2).trans rfl
 have z2 : w1.cell? ⟨W.heap.size + 1, 2, none⟩ = some (.slice B2 y.f2.length d2) := (blk_cell hn2 2).trans rfl
 have y3 : w1.cell? ⟨W.heap.size, 3, none⟩ = some (.slice A3 x.f3.length c3) := (blk_cell hn1 3).trans rfl
 have z3 : w1.cell? ⟨W.heap.size + 1, 3, none⟩ = some (.slice B3 y.f3.length d3) := (blk_cell hn2 3).trans rfl
 clear hn1 hn2
 go_enter Tryz.func63, Tryz.ntmps63
 go_wp2_with fail
 clear hw1
 have qb := join_below HB.out HB1.out
 refine (eqtx_any x.f1 y.f1 A1 B1 c1 d1 _ (Kd.C_below G1.out qb) (Kd.C_below H1.out qb) L1.out M1.out).mono ?_
 rintro e w2 ⟨rfl, hb⟩
 have HB2 := Aside0.mk (join_below HB1.out hb)
 have hr := HR2.out
 have HN1 := Aside0.mk (blk_below HN1.out hb)
 have HN2 := Aside0.mk (blk_below HN2.out hb)
 have y2 : w2.cell? ⟨W.heap.size, 2, none⟩ = some (.slice A2 x.f2.length c2) := (blk_cell HN1.out 2).trans rfl
 have z2 : w2.cell? ⟨W.heap.size + 1, 2, none⟩ = some (.slice B2 y.f2.length d2) := (blk_cell HN2.out 2).trans rfl
 clear hb qb
 cases hq : eqL txQ x.f1 y.f1
 · rw [hq, Bool.false_and] at hr
   have HF := Aside0.mk hr
   clear hr hq
   go_wp2
   go_ret
   exact ⟨by rw [← HF.out]; rfl, HB2.out⟩
 · rw [hq, Bool.true_and] at hr
   have HR2 := Aside0.mk hr
   clear hr hq
   go_wp2_with fail
   have qb := join_below HB.out HB2.out
   refine (eqtx_any x.f2 y.f2 A2 B2 c2 d2 _ (Kd.C_below G2.out qb) (Kd.C_below H2.out qb) L2.out M2.out).mono ?_
   rintro e w3 ⟨rfl, hb⟩
   have HB3 := Aside0.mk (join_below HB2.out hb)
   have hr := HR2.out
   have HN1 := Aside0.mk (blk_below HN1.out hb)
   have HN2 := Aside0.mk (blk_below HN2.out hb)
   have y3 : w3.cell? ⟨W.heap.size, 3, none⟩ = some (.slice A3 x.f3.length c3) := (blk_cell HN1.out 3).trans rfl
   have z3 : w3.cell? ⟨W.heap.size + 1, 3, none⟩ = some (.slice B3 y.f3.length d3) := (blk_cell HN2.out 3).trans rfl
   clear hb qb
   cases hq : eqL txQ x.f2 y.f2
   · rw [hq, Bool.false_and] at hr
     have HF := Aside0.mk hr
     clear hr hq
     go_wp2
     go_ret
     exact ⟨by rw [← HF.out]; rfl, HB3.out⟩
   · rw [hq, Bool.true_and] at hr
     have HR2 := Aside0.mk hr
     clear hr hq
     go_wp2_with fail
     have qb := join_below HB.out HB3.out
     refine (pats_equal samePt x.f3 y.f3 A3 B3 c3 d3 w0 _ G3.out H3.out qb (fun a b cs ds W' ha hb hB' hK hK2 => hx a ha b w0 W' cs ds hB' hK hK2)).mono ?_
     rintro e w4 ⟨rfl, hb⟩
     have HB4 := Aside0.mk (join_below HB3.out hb)
     have hr := HR2.out
     have HF := Aside0.mk hr
     clear hr hb qb
     go_wp2
     go_ret
     exact ⟨by rw [← HF.out]; rfl, HB4.out⟩
theorem same_pt_all : ∀ (N : Nat) (x : Pt), SizeOf.sizeOf x < N → SamePC x
 | 0, x, h => absurd h (Nat.not_lt_zero _)
 | N + 1, x, h => same_pt_go x (fun y hy => same_pt_all N y (by
     have h1 := List.sizeOf_lt_of_mem hy
     have h2 : SizeOf.sizeOf x.f3 < SizeOf.sizeOf x := by
      cases x
      simp
      omega
     omega))
theorem same_pt (x : Pt) : SamePC x := same_pt_all (SizeOf.sizeOf x + 1) x (Nat.lt_succ_self _)
end Go.Proofs.YthdfmbmbjpmlaaaGreatDoor.Rn
end
section
set_option linter.unusedVariables false
set_option linter.unusedSimpArgs false
namespace Go.Proofs.YthdfmbmbjpmlaaaGreatDoor.Rn
open Go Go.RowKit Go.Proofs.YthdfmbmbjpmlaaaGreatDoorW.PrintWords Go.Proofs.YthdfmbmbjpmlaaaGreatDoorW.PrintLast Go.Proofs.YthdfmbmbjpmlaaaGreatDoorW.PrintMore
set_option maxHeartbeats 1000000 in
set_option maxRecDepth 100000 in
theorem toks_equal (q : S40 → S40 → Bool) (xs ys : List S40) (A B : Option Addr) (c d : Nat) (w0 w : World) (hA : k40.C w0 A xs.length xs) (hB : k40.C w0 B ys.length ys) (hw : Below w0.heap.size w0 w)
 (hq : ∀ x y cs ds W, x ∈ xs → y ∈ ys → Below w0.heap.size w0 W → k40.K w0 x cs → k40.K w0 y ds → Calls Tryz.prog 29 #[.agg cs.toArray, .agg ds.toArray] W fun e W' => e = .returned (.bool (q x y)) ∧ Below W.heap.size W W') :
 Calls Tryz.prog 28 #[.slice A xs.length c, .slice B ys.length d, .func (.func 29) #[] #[]] w fun e W' => e = .returned (.bool (eqL q xs ys)) ∧ Below w.heap.size w W' := by
 have hl : xs.length ≤ 9223372036854775807 := hA.2.1
 have hm : ys.length ≤ 9223372036854775807 := hB.2.1
 obtain ⟨res, hres⟩ : ∃ r, eqL q xs ys = r := ⟨_, rfl⟩
 rw [hres]
 have HA := Aside0.mk hA
 have HC := Aside0.mk hB
 have HQ := Aside0.mk hq
 have HW := Aside0.mk hw
 have HR := Aside0.mk hres
 clear hA hB hq hw hres
 by_cases hlen : xs.length = ys.length
 · have hmm : ((xs.length : Int) != (ys.length : Int)) = false := by rw [hlen]; simp
   have HL := Aside0.mk hlen
   clear hlen
   go_enter Tryz.func28, Tryz.ntmps28
   go_wp2
   go_loopw [17] (fun i W => ∃ k : Nat, i = .int .i64 k ∧ k ≤ xs.length ∧ Aside0 (Below w.heap.size w W) ∧ Aside0 (eqL q (xs.drop k) (ys.drop k) = res)) (fun i _ => xs.length - (intOf i).toNat)
   case atStart => exact ⟨0, rfl, Nat.zero_le _, ⟨Below.refl _ _⟩, ⟨HR.out⟩⟩
   case round =>
    obtain ⟨k, rfl, hkl, HI, HE⟩ := hrel
    by_cases hlt : k < xs.length
    · have hlt2 : k < ys.length := by have := HL.out; omega
      have HN := Aside0.mk (eqL_drop q hlt hlt2)
      have HB0 := Aside0.mk (join_below HW.out HI.out)
      obtain ⟨g, o, rfl, _, hcell⟩ := row_cells HA.out (by omega) (by decide)
      obtain ⟨g2, o2, rfl, _, hcell2⟩ := row_cells HC.out (by omega) (by decide)
      have hx : xs[k]? = some xs[k] := List.getElem?_eq_getElem hlt
      have hy : ys[k]? = some ys[k] := List.getElem?_eq_getElem hlt2
      have HMX := Aside0.mk (List.getElem_mem hlt)
      have HMY := Aside0.mk (List.getElem_mem hlt2)
      generalize xs[k] = x at hx HMX HN
      generalize ys[k] = y at hy HMY HN
      obtain ⟨cs, hcl, hK, hcc⟩ := hcell k x hx
      obtain ⟨ds, hdl, hK2, hcd⟩ := hcell2 k y hy
      have HK := Aside0.mk hK
      have HK2 := Aside0.mk hK2
      obtain ⟨A4, c4, A5, c5, rfl, l4, g4, l5, g5⟩ := k40_open hK
      obtain ⟨B4, d4, B5, d5, rfl, m4, h4, m5, h5⟩ := k40_open hK2
      have y0 := cell_after HB0.out (hcc 0 (.string x.f0) rfl)
      have z0 := fun ob => cell_after (below_alloc HB0.out ob) (hcd 0 (.string y.f0) rfl)
      rw [Nat.add_zero] at y0
      simp only [Nat.add_zero] at z0
      have y1 := cell_after HB0.out (hcc 1 (.int .i64 x.f1) rfl)
      have z1 := fun ob => cell_after (below_alloc HB0.out ob) (hcd 1 (.int .i64 y.f1) rfl)
      have y2 := cell_after HB0.out (hcc 2 (.int .i64 x.f2) rfl)
      have z2 := fun ob => cell_after (below_alloc HB0.out ob) (hcd 2 (.int .i64 y.f2) rfl)
      have y3 := cell_after HB0.out (hcc 3 (.int .i64 x.f3.f0) rfl)
      have z3 := fun ob => cell_after (below_alloc HB0.out ob) (hcd 3 (.int .i64 y.f3.f0) rfl)
      have y4 := cell_after HB0.out (hcc 4 (.slice A4 x.f3.f1.length c4) rfl)
      have z4 := fun ob => cell_after (below_alloc HB0.out ob) (hcd 4 (.slice B4 y.f3.f1.length d4) rfl)
      have y5 := cell_after HB0.out (hcc 5 (.slice A5 x.f3.f2.length c5) rfl)
      have z5 := fun ob => cell_after (below_alloc HB0.out ob) (hcd 5 (.slice B5 y.f3.f2.length d5) rfl)
      simp only [show k40.sz = 6 from rfl] at y0 z0 y1 z1 y2 z2 y3 z3 y4 z4 y5 z5
      clear hcell hcc hcell2 hcd hx hy hK hK2 hcl hdl
      go_wp2_with fail
      refine (HQ.out x y _ _ _ HMX.out HMY.out (below_alloc (below_alloc HB0.out _) _) HK.out HK2.out).mono ?_
      rintro e w2 ⟨rfl, hb⟩
      have HI2 := Aside0.mk (join_below HI.out (join_below (below_alloc (below1 _ _) _) hb))
      clear hb
      have he := HE.out
      rw [HN.out] at he
      cases hqq : q x y
      · rw [hqq, Bool.false_and] at he
        have HF := Aside0.mk he
        clear he hqq
        go_wp2
        go_ret
        exact ⟨by rw [← HF.out]; rfl, HI2.out⟩
      · rw [hqq, Bool.true_and] at he
        have HF := Aside0.mk he
        clear he hqq
        go_wp2
        go_roundw
        case rel => exact ⟨k + 1, by go_num, by omega, HI2, HF⟩
        case measure => simp [intOf]; omega
    · have he := HE.out
      rw [List.drop_of_length_le (by omega), List.drop_of_length_le (by have := HL.out; omega)] at he
      have HF := Aside0.mk he
      clear he
      go_wp2
      go_ret
      exact ⟨by rw [← HF.out]; rfl, HI.out⟩
 · have hmm : ((xs.length : Int) != (ys.length : Int)) = true := by simp; omega
   have HF := Aside0.mk (eqL_len q hlen)
   have hne : ¬ ((xs.length : Int) = (ys.length : Int)) := by omega
   clear hlen
   go_enter Tryz.func28, Tryz.ntmps28
   go_wp2
   go_ret
   exact ⟨by rw [← HR.out, HF.out]; rfl, Below.refl _ _⟩
set_option maxHeartbeats 1000000 in
set_option maxRecDepth 100000 in
theorem ruls_equal (q : S43 → S43 → Bool) (xs ys : List S43) (A B : Option Addr) (c d : Nat) (w0 w : World) (hA : k43.C w0 A xs.length xs) (hB : k43.C w0 B ys.length ys) (hw : Below w0.heap.size w0 w)
 (hq : ∀ x y cs ds W, x ∈ xs → y ∈ ys → Below w0.heap.size w0 W → k43.K w0 x cs → k43.K w0 y ds → Calls Tryz.prog 32 #[.agg cs.toArray, .agg ds.toArray] W fun e W' => e = .returned (.bool (q x y)) ∧ Below W.heap.size W W') :
 Calls Tryz.prog 31 #[.slice A xs.length c, .slice B ys.length d, .func (.func 32) #[] #[]] w fun e W' => e = .returned (.bool (eqL q xs ys)) ∧ Below w.heap.size w W' := by
 have hl : xs.length ≤ 9223372036854775807 := hA.2.1
 have hm : ys.length ≤ 9223372036854775807 := hB.2.1
 obtain ⟨res, hres⟩ : ∃ r, eqL q xs ys = r := ⟨_, rfl⟩
 rw [hres]
 have HA := Aside0.mk hA
 have HC := Aside0.mk hB
 have HQ := Aside0.mk hq
 have HW := Aside0.mk hw
 have HR := Aside0.mk hres
 clear hA hB hq hw hres
 by_cases hlen : xs.length = ys.length
 · have hmm : ((xs.length : Int) != (ys.length : Int)) = false := by rw [hlen]; simp
   have HL := Aside0.mk hlen
   clear hlen
   go_enter Tryz.func31, Tryz.ntmps31
   go_wp2
   go_loopw [17] (fun i W => ∃ k : Nat, i = .int .i64 k ∧ k ≤ xs.length ∧ Aside0 (Below w.heap.size w W) ∧ Aside0 (eqL q (xs.drop k) (ys.drop k) = res)) (fun i _ => xs.length - (intOf i).toNat)
   case atStart => exact ⟨0, rfl, Nat.zero_le _, ⟨Below.refl _ _⟩, ⟨HR.out⟩⟩
   case round =>
    obtain ⟨k, rfl, hkl, HI, HE⟩ := hrel
    by_cases hlt : k < xs.length
    · have hlt2 : k < ys.length := by have := HL.out; omega
      have HN := Aside0.mk (eqL_drop q hlt hlt2)
      have HB0 := Aside0.mk (join_below HW.out HI.out)
      obtain ⟨g, o, rfl, _, hcell⟩ := row_cells HA.out (by omega) (by decide)
      obtain ⟨g2, o2, rfl, _, hcell2⟩ := row_cells HC.out (by omega) (by decide)
      have hx : xs[k]? = some xs[k] := List.getElem?_eq_getElem hlt
      have hy : ys[k]? = some ys[k] := List.getElem?_eq_getElem hlt2
      have HMX := Aside0.mk (List.getElem_mem hlt)
      have HMY := Aside0.mk (List.getElem_mem hlt2)
      generalize xs[k] = x at hx HMX HN
      generalize ys[k] = y at hy HMY HN
      obtain ⟨cs, hcl, hK, hcc⟩ := hcell k x hx
      obtain ⟨ds, hdl, hK2, hcd⟩ := hcell2 k y hy
      have HK := Aside0.mk hK
      have HK2 := Aside0.mk hK2
      obtain ⟨A2, c2, rfl, l2, g2⟩ := k43_open hK
      obtain ⟨B2, d2, rfl, m2, h2⟩ := k43_open hK2
      have y0 := cell_after HB0.out (hcc 0 (.int .i64 x.f0) rfl)
      have z0 := fun ob => cell_after (below_alloc HB0.out ob) (hcd 0 (.int .i64 y.f0) rfl)
      rw [Nat.add_zero] at y0
      simp only [Nat.add_zero] at z0
      have y1 := cell_after HB0.out (hcc 1 (.bool x.f1) rfl)
      have z1 := fun ob => cell_after (below_alloc HB0.out ob) (hcd 1 (.bool y.f1) rfl)
      have y2 := cell_after HB0.out (hcc 2 (.slice A2 x.f2.length c2) rfl)
      have z2 := fun ob => cell_after (below_alloc HB0.out ob) (hcd 2 (.slice B2 y.f2.length d2) rfl)
      simp only [show k43.sz = 3 from rfl] at y0 z0 y1 z1 y2 z2
      clear hcell hcc hcell2 hcd hx hy hK hK2 hcl hdl
      go_wp2_with fail
      refine (HQ.out x y _ _ _ HMX.out HMY.out (below_alloc (below_alloc HB0.out _) _) HK.out HK2.out).mono ?_
      rintro e w2 ⟨rfl, hb⟩
      have HI2 := Aside0.mk (join_below HI.out (join_below (below_alloc (below1 _ _) _) hb))
      clear hb
      have he := HE.out
      rw [HN.out] at he
      cases hqq : q x y
      · rw [hqq, Bool.false_and] at he
        have HF := Aside0.mk he
        clear he hqq
        go_wp2
        go_ret
        exact ⟨by rw [← HF.out]; rfl, HI2.out⟩
      · rw [hqq, Bool.true_and] at he
        have HF := Aside0.mk he
        clear he hqq
        go_wp2
        go_roundw
        case rel => exact ⟨k + 1, by go_num, by omega, HI2, HF⟩
        case measure => simp [intOf]; omega
    · have he := HE.out
      rw [List.drop_of_length_le (by omega), List.drop_of_length_le (by have := HL.out; omega)] at he
      have HF := Aside0.mk he
      clear he
      go_wp2
      go_ret
      exact ⟨by rw [← HF.out]; rfl, HI.out⟩
 · have hmm : ((xs.length : Int) != (ys.length : Int)) = true := by simp; omega
   have HF := Aside0.mk (eqL_len q hlen)
   have hne : ¬ ((xs.length : Int) = (ys.length : Int)) := by omega
   clear hlen
   go_enter Tryz.func31, Tryz.ntmps31
   go_wp2
   go_ret
   exact ⟨by rw [← HR.out, HF.out]; rfl, Below.refl _ _⟩
set_option maxHeartbeats 1000000 in
set_option maxRecDepth 100000 in
theorem stps_equal (q : S49 → S49 → Bool) (xs ys : List S49) (A B : Option Addr) (c d : Nat) (w0 w : World) (hA : k49.C w0 A xs.length xs) (hB : k49.C w0 B ys.length ys) (hw : Below w0.heap.size w0 w)
 (hq : ∀ x y cs ds W, x ∈ xs → y ∈ ys → Below w0.heap.size w0 W → k49.K w0 x cs → k49.K w0 y ds → Calls Tryz.prog 61 #[.agg cs.toArray, .agg ds.toArray] W fun e W' => e = .returned (.bool (q x y)) ∧ Below W.heap.size W W') :
 Calls Tryz.prog 60 #[.slice A xs.length c, .slice B ys.length d, .func (.func 61) #[] #[]] w fun e W' => e = .returned (.bool (eqL q xs ys)) ∧ Below w.heap.size w W' := by
 have hl : xs.length ≤ 9223372036854775807 := hA.2.1
 have hm : ys.length ≤ 9223372036854775807 := hB.2.1
 obtain ⟨res, hres⟩ : ∃ r, eqL q xs ys = r := ⟨_, rfl⟩
 rw [hres]
 have HA := Aside0.mk hA
 have HC := Aside0.mk hB
 have HQ := Aside0.mk hq
 have HW := Aside0.mk hw
 have HR := Aside0.mk hres
 clear hA hB hq hw hres
 by_cases hlen : xs.length = ys.length
 · have hmm : ((xs.length : Int) != (ys.length : Int)) = false := by rw [hlen]; simp
   have HL := Aside0.mk hlen
   clear hlen
   go_enter Tryz.func60, Tryz.ntmps60
   go_wp2
   go_loopw [17] (fun i W => ∃ k : Nat, i = .int .i64 k ∧ k ≤ xs.length ∧ Aside0 (Below w.heap.size w W) ∧ Aside0 (eqL q (xs.drop k) (ys.drop k) = res)) (fun i _ => xs.length - (intOf i).toNat)
   case atStart => exact ⟨0, rfl, Nat.zero_le _, ⟨Below.refl _ _⟩, ⟨HR.out⟩⟩
   case round =>
    obtain ⟨k, rfl, hkl, HI, HE⟩ := hrel
    by_cases hlt : k < xs.length
    · have hlt2 : k < ys.length := by have := HL.out; omega
      have HN := Aside0.mk (eqL_drop q hlt hlt2)
      have HB0 := Aside0.mk (join_below HW.out HI.out)
      obtain ⟨g, o, rfl, _, hcell⟩ := row_cells HA.out (by omega) (by decide)
      obtain ⟨g2, o2, rfl, _, hcell2⟩ := row_cells HC.out (by omega) (by decide)
      have hx : xs[k]? = some xs[k] := List.getElem?_eq_getElem hlt
      have hy : ys[k]? = some ys[k] := List.getElem?_eq_getElem hlt2
      have HMX := Aside0.mk (List.getElem_mem hlt)
      have HMY := Aside0.mk (List.getElem_mem hlt2)
      generalize xs[k] = x at hx HMX HN
      generalize ys[k] = y at hy HMY HN
      obtain ⟨cs, hcl, hK, hcc⟩ := hcell k x hx
      obtain ⟨ds, hdl, hK2, hcd⟩ := hcell2 k y hy
      have HK := Aside0.mk hK
      have HK2 := Aside0.mk hK2
      obtain ⟨A0, c0, A2, c2, A3, c3, A4, c4, rfl, l0, g0, l2, g2, l3, g3, l4, g4⟩ := k49_open hK
      obtain ⟨B0, d0, B2, d2, B3, d3, B4, d4, rfl, m0, h0, m2, h2, m3, h3, m4, h4⟩ := k49_open hK2
      have y0 := cell_after HB0.out (hcc 0 (.slice A0 x.f0.length c0) rfl)
      have z0 := fun ob => cell_after (below_alloc HB0.out ob) (hcd 0 (.slice B0 y.f0.length d0) rfl)
      rw [Nat.add_zero] at y0
      simp only [Nat.add_zero] at z0
      have y1 := cell_after HB0.out (hcc 1 (.int .i64 x.f1.f0) rfl)
      have z1 := fun ob => cell_after (below_alloc HB0.out ob) (hcd 1 (.int .i64 y.f1.f0) rfl)
      have y2 := cell_after HB0.out (hcc 2 (.slice A2 x.f1.f1.length c2) rfl)
      have z2 := fun ob => cell_after (below_alloc HB0.out ob) (hcd 2 (.slice B2 y.f1.f1.length d2) rfl)
      have y3 := cell_after HB0.out (hcc 3 (.slice A3 x.f1.f2.length c3) rfl)
      have z3 := fun ob => cell_after (below_alloc HB0.out ob) (hcd 3 (.slice B3 y.f1.f2.length d3) rfl)
      have y4 := cell_after HB0.out (hcc 4 (.slice A4 x.f1.f3.length c4) rfl)
      have z4 := fun ob => cell_after (below_alloc HB0.out ob) (hcd 4 (.slice B4 y.f1.f3.length d4) rfl)
      simp only [show k49.sz = 5 from rfl] at y0 z0 y1 z1 y2 z2 y3 z3 y4 z4
      clear hcell hcc hcell2 hcd hx hy hK hK2 hcl hdl
      go_wp2_with fail
      refine (HQ.out x y _ _ _ HMX.out HMY.out (below_alloc (below_alloc HB0.out _) _) HK.out HK2.out).mono ?_
      rintro e w2 ⟨rfl, hb⟩
      have HI2 := Aside0.mk (join_below HI.out (join_below (below_alloc (below1 _ _) _) hb))
      clear hb
      have he := HE.out
      rw [HN.out] at he
      cases hqq : q x y
      · rw [hqq, Bool.false_and] at he
        have HF := Aside0.mk he
        clear he hqq
        go_wp2
        go_ret
        exact ⟨by rw [← HF.out]; rfl, HI2.out⟩
      · rw [hqq, Bool.true_and] at he
        have HF := Aside0.mk he
        clear he hqq
        go_wp2
        go_roundw
        case rel => exact ⟨k + 1, by go_num, by omega, HI2, HF⟩
        case measure => simp [intOf]; omega
    · have he := HE.out
      rw [List.drop_of_length_le (by omega), List.drop_of_length_le (by have := HL.out; omega)] at he
      have HF := Aside0.mk he
      clear he
      go_wp2
      go_ret
      exact ⟨by rw [← HF.out]; rfl, HI.out⟩
 · have hmm : ((xs.length : Int) != (ys.length : Int)) = true := by simp; omega
   have HF := Aside0.mk (eqL_len q hlen)
   have hne : ¬ ((xs.length : Int) = (ys.length : Int)) := by omega
   clear hlen
   go_enter Tryz.func60, Tryz.ntmps60
   go_wp2
   go_ret
   exact ⟨by rw [← HR.out, HF.out]; rfl, Below.refl _ _⟩
def sameStp (x y : Stp) : Bool := eqL txQ x.f0 y.f0 && samePt x.f1 y.f1
def sameRul (x y : Rul) : Bool := (x.f0 == y.f0) && ((x.f1 == y.f1) && eqL sameStp x.f2 y.f2)
def sameTok (x y : Tok) : Bool := (x.f0.toList == y.f0.toList) && ((x.f1 == y.f1) && ((x.f2 == y.f2) && sameRe x.f3 y.f3))
set_option maxHeartbeats 2000000 in
set_option maxRecDepth 100000 in
theorem same_stp (x y : Stp) (w0 W : World) (cs ds : List Value) (hB : Below w0.heap.size w0 W) (hK : k49.K w0 x cs) (hK2 : k49.K w0 y ds) :
 Calls Tryz.prog 61 #[.agg cs.toArray, .agg ds.toArray] W fun e W' => e = .returned (.bool (sameStp x y)) ∧ Below W.heap.size W W' := by
 obtain ⟨A0, c0, A2, c2, A3, c3, A4, c4, rfl, l0, g0, l2, g2, l3, g3, l4, g4⟩ := k49_open hK
 obtain ⟨B0, d0, B2, d2, B3, d3, B4, d4, rfl, m0, h0, m2, h2, m3, h3, m4, h4⟩ := k49_open hK2
 obtain ⟨res, hres⟩ : ∃ r, sameStp x y = r := ⟨_, rfl⟩
 have hv : sameStp x y = ((eqL txQ x.f0 y.f0) && (samePt x.f1 y.f1)) := rfl
 rw [hres]
 have HR : Aside0 (((eqL txQ x.f0 y.f0) && (samePt x.f1 y.f1)) = res) := ⟨hv.symm.trans hres⟩
 have L0 := Aside0.mk l0
 have G0 := Aside0.mk g0
 have L2 := Aside0.mk l2
 have G2 := Aside0.mk g2
 have L3 := Aside0.mk l3
 have G3 := Aside0.mk g3
 have L4 := Aside0.mk l4
 have G4 := Aside0.mk g4
 have M0 := Aside0.mk m0
 have H0 := Aside0.mk h0
 have M2 := Aside0.mk m2
 have H2 := Aside0.mk h2
 have M3 := Aside0.mk m3
 have H3 := Aside0.mk h3
 have M4 := Aside0.mk m4
 have H4 := Aside0.mk h4
 have HB := Aside0.mk hB
 clear hB hK hK2 hres hv l0 g0 l2 g2 l3 g3 l4 g4 m0 h0 m2 h2 m3 h3 m4 h4
 have hr := HR.out
 have HR2 := Aside0.mk hr
 clear hr HR
 obtain ⟨w1, hw1⟩ : ∃ w1, (W.alloc (.cells #[.slice A0 x.f0.length c0, .int .i64 x.f1.f0, .slice A2 x.f1.f1.length c2, .slice A3 x.f1.f2.length c3, .slice A4 x.f1.f3.length c4] 49)).alloc (.cells #[.slice B0 y.f0.length d0, .int .i64 y.f1.f0, .slice B2 y.f1.f1.length d2, .slice B3 y.f1.f2.length d3, .slice B4 y.f1.f3.length d4] 49) = w1 := ⟨_, rfl⟩
 have HB1 : Aside0 (Below W.heap.size W w1) := ⟨hw1 ▸ below_alloc (below1 W _) _⟩
 have hn1 : w1.heap[W.heap.size]? = some (.cells #[.slice A0 x.f0.length c0, .int .i64 x.f1.f0, .slice A2 x.f1.f1.length c2, .slice A3 x.f1.f2.length c3, .slice A4 x.f1.f3.length c4] 49 (0, 0)) := by rw [← hw1]; exact blk_alloc (blk_new _ _) _
 have hn2 : w1.heap[W.heap.size + 1]? = some (.cells #[.slice B0 y.f0.length d0, .int .i64 y.f1.f0, .slice B2 y.f1.f1.length d2, .slice B3 y.f1.f2.length d3, .slice B4 y.f1.f3.length d4] 49 (0, 0)) := by
  have h := blk_new (W.alloc (.cells #[.slice A0 x.f0.length c0, .int .i64 x.f1.f0, .slice A2 x.f1.f1.length c2, .slice A3 x.f1.f2.length c3, .slice A4 x.f1.f3.length c4] 49)) (.cells #[.slice B0 y.f0.length d0, .int .i64 y.f1.f0, .slice B2 y.f1.f1.length d2, .slice B3 y.f1.f2.length d3, .slice B4 y.f1.f3.length d4] 49)
  rw [hw1] at h
  simpa using h
 have HN1 := Aside0.mk hn1
 have HN2 := Aside0.mk hn2
 have y0 : w1.cell? ⟨W.heap.size, 0, none⟩ = some (.slice A0 x.f0.length c0) := (blk_cell hn1 0).trans rfl
 have z0 : w1.cell? ⟨W.heap.size + 1, 0, none⟩ = some (.slice B0 y.f0.length d0) := (blk_cell hn2 0).trans rfl
 have y1 : w1.cell? ⟨W.heap.size, 1, none⟩ = some (.int .i64 x.f1.f0) := (blk_cell hn1 1).trans rfl
 have z1 : w1.cell? ⟨W.heap.size + 1, 1, none⟩ = some (.int .i64 y.f1.f0) := (blk_cell hn2 1).trans rfl
 have y2 : w1.cell? ⟨W.heap.size, 2, none⟩ = some (.slice A2 x.f1.f1.length c2) := (blk_cell hn1 2).trans rfl
 have z2 : w1.cell? ⟨W.heap.size + 1, 2, none⟩ = some (.slice B2 y.f1.f1.length d2) := (blk_cell hn2 2).trans rfl
 have y3 : w1.cell? ⟨W.heap.size, 3, none⟩ = some (.slice A3 x.f1.f2.length c3) := (blk_cell hn1 3).trans rfl
 have z3 : w1.cell? ⟨W.heap.size + 1, 3, none⟩ = some (.slice B3 y.f1.f2.length d3) := (blk_cell hn2 3).trans rfl
 have y4 : w1.cell? ⟨W.heap.size, 4, none⟩ = some (.slice A4 x.f1.f3.length c4) := (blk_cell hn1 4).trans rfl
 have z4 : w1.cell? ⟨W.heap.size + 1, 4, none⟩ = some (.slice B4 y.f1.f3.length d4) := (blk_cell hn2 4).trans rfl
 clear hn1 hn2
 go_enter Tryz.func61, Tryz.ntmps61
 go_wp2_with fail
 clear hw1
 have qb := join_below HB.out HB1.out
 refine (eqtx_any x.f0 y.f0 A0 B0 c0 d0 _ (Kd.C_below G0.out qb) (Kd.C_below H0.out qb) L0.out M0.out).mono ?_
 rintro e w2 ⟨rfl, hb⟩
 have HB2 := Aside0.mk (join_below HB1.out hb)
 have hr := HR2.out
 have HN1 := Aside0.mk (blk_below HN1.out hb)
 have HN2 := Aside0.mk (blk_below HN2.out hb)
 have y1 : w2.cell? ⟨W.heap.size, 1, none⟩ = some (.int .i64 x.f1.f0) := (blk_cell HN1.out 1).trans rfl
 have z1 : w2.cell? ⟨W.heap.size + 1, 1, none⟩ = some (.int .i64 y.f1.f0) := (blk_cell HN2.out 1).trans rfl
 have y2 : w2.cell? ⟨W.heap.size, 2, none⟩ = some (.slice A2 x.f1.f1.length c2) := (blk_cell HN1.out 2).trans rfl
 have z2 : w2.cell? ⟨W.heap.size + 1, 2, none⟩ = some (.slice B2 y.f1.f1.length d2) := (blk_cell HN2.out 2).trans rfl
 have y3 : w2.cell? ⟨W.heap.size, 3, none⟩ = some (.slice A3 x.f1.f2.length c3) := (blk_cell HN1.out 3).trans rfl
 have z3 : w2.cell? ⟨W.heap.size + 1, 3, none⟩ = some (.slice B3 y.f1.f2.length d3) := (blk_cell HN2.out 3).trans rfl
 have y4 : w2.cell? ⟨W.heap.size, 4, none⟩ = some (.slice A4 x.f1.f3.length c4) := (blk_cell HN1.out 4).trans rfl
 have z4 : w2.cell? ⟨W.heap.size + 1, 4, none⟩ = some (.slice B4 y.f1.f3.length d4) := (blk_cell HN2.out 4).trans rfl
 clear hb qb
 cases hq : eqL txQ x.f0 y.f0
 · rw [hq, Bool.false_and] at hr
   have HF := Aside0.mk hr
   clear hr hq
   go_wp2
   go_ret
   exact ⟨by rw [← HF.out]; rfl, HB2.out⟩
 · rw [hq, Bool.true_and] at hr
   have HR2 := Aside0.mk hr
   clear hr hq
   go_wp2_with fail
   have qb := join_below HB.out HB2.out
   refine (same_pt x.f1 y.f1 w0 _ _ _ qb (k47_mk w0 x.f1 L2.out G2.out L3.out G3.out L4.out G4.out) (k47_mk w0 y.f1 M2.out H2.out M3.out H3.out M4.out H4.out)).mono ?_
   rintro e w3 ⟨rfl, hb⟩
   have HB3 := Aside0.mk (join_below HB2.out hb)
   have hr := HR2.out
   have HF := Aside0.mk hr
   clear hr hb qb
   go_wp2
   go_ret
   exact ⟨by rw [← HF.out]; rfl, HB3.out⟩
set_option maxHeartbeats 2000000 in
set_option maxRecDepth 100000 in
theorem same_rul (x y : Rul) (w0 W : World) (cs ds : List Value) (hB : Below w0.heap.size w0 W) (hK : k43.K w0 x cs) (hK2 : k43.K w0 y ds) :
 Calls Tryz.prog 32 #[.agg cs.toArray, .agg ds.toArray] W fun e W' => e = .returned (.bool (sameRul x y)) ∧ Below W.heap.size W W' := by
 obtain ⟨A2, c2, rfl, l2, g2⟩ := k43_open hK
 obtain ⟨B2, d2, rfl, m2, h2⟩ := k43_open hK2
 obtain ⟨res, hres⟩ : ∃ r, sameRul x y = r := ⟨_, rfl⟩
 have hv : sameRul x y = ((x.f0 == y.f0) && ((x.f1 == y.f1) && (eqL sameStp x.f2 y.f2))) := rfl
 rw [hres]
 have HR : Aside0 (((x.f0 == y.f0) && ((x.f1 == y.f1) && (eqL sameStp x.f2 y.f2))) = res) := ⟨hv.symm.trans hres⟩
 have L2 := Aside0.mk l2
 have G2 := Aside0.mk g2
 have M2 := Aside0.mk m2
 have H2 := Aside0.mk h2
 have HB := Aside0.mk hB
 clear hB hK hK2 hres hv l2 g2 m2 h2
 by_cases q0 : (x.f0 == y.f0) = true
 rotate_left
 · have hr := HR.out
   rw [Bool.not_eq_true] at q0
   rw [q0, Bool.false_and] at hr
   have HF := Aside0.mk hr
   clear hr HR
   go_enter Tryz.func32, Tryz.ntmps32
   go_wp2
   go_ret
   exact ⟨by rw [← HF.out]; rfl, below_alloc (below1 _ _) _⟩
 by_cases q1 : (x.f1 == y.f1) = true
 rotate_left
 · have hr := HR.out
   rw [Bool.not_eq_true] at q1
   rw [q0, Bool.true_and, q1, Bool.false_and] at hr
   have HF := Aside0.mk hr
   clear hr HR
   go_enter Tryz.func32, Tryz.ntmps32
   go_wp2
   go_ret
   exact ⟨by rw [← HF.out]; rfl, below_alloc (below1 _ _) _⟩
 have hr := HR.out
 rw [q0, Bool.true_and, q1, Bool.true_and] at hr
 have HR2 := Aside0.mk hr
 clear hr HR
 obtain ⟨w1, hw1⟩ : ∃ w1, (W.alloc (.cells #[.int .i64 x.f0, .bool x.f1, .slice A2 x.f2.length c2] 43)).alloc (.cells #[.int .i64 y.f0, .bool y.f1, .slice B2 y.f2.length d2] 43) = w1 := ⟨_, rfl⟩
 have HB1 : Aside0 (Below W.heap.size W w1) := ⟨hw1 ▸ below_alloc (below1 W _) _⟩
 have hn1 : w1.heap[W.heap.size]? = some (.cells #[.int .i64 x.f0, .bool x.f1, .slice A2 x.f2.length c2] 43 (0, 0)) := by rw [← hw1]; exact blk_alloc (blk_new _ _) _
 have hn2 : w1.heap[W.heap.size + 1]? = some (.cells #[.int .i64 y.f0, .bool y.f1, .slice B2 y.f2.length d2] 43 (0, 0)) := by
  have h := blk_new (W.alloc (.cells #[.int .i64 x.f0, .bool x.f1, .slice A2 x.f2.length c2] 43)) (.cells #[.int .i64 y.f0, .bool y.f1, .slice B2 y.f2.length d2] 43)
  rw [hw1] at h
  simpa using h
 have HN1 := Aside0.mk hn1
 have HN2 := Aside0.mk hn2
 have y0 : w1.cell? ⟨W.heap.size, 0, none⟩ = some (.int .i64 x.f0) := (blk_cell hn1 0).trans rfl
 have z0 : w1.cell? ⟨W.heap.size + 1, 0, none⟩ = some (.int .i64 y.f0) := (blk_cell hn2 0).trans rfl
 have y1 : w1.cell? ⟨W.heap.size, 1, none⟩ = some (.bool x.f1) := (blk_cell hn1 1).trans rfl
 have z1 : w1.cell? ⟨W.heap.size + 1, 1, none⟩ = some (.bool y.f1) := (blk_cell hn2 1).trans rfl
 have y2 : w1.cell? ⟨W.heap.size, 2, none⟩ = some (.slice A2 x.f2.length c2) := (blk_cell hn1 2).trans rfl
 have z2 : w1.cell? ⟨W.heap.size + 1, 2, none⟩ = some (.slice B2 y.f2.length d2) := (blk_cell hn2 2).trans rfl
 clear hn1 hn2
 go_enter Tryz.func32, Tryz.ntmps32
 go_wp2_with fail
 clear hw1
 have qb := join_below HB.out HB1.out
 refine (stps_equal sameStp x.f2 y.f2 A2 B2 c2 d2 w0 _ G2.out H2.out qb (fun a b cs ds W' _ _ hB' hK hK2 => same_stp a b w0 W' cs ds hB' hK hK2)).mono ?_
 rintro e w2 ⟨rfl, hb⟩
 have HB2 := Aside0.mk (join_below HB1.out hb)
 have hr := HR2.out
 have HF := Aside0.mk hr
 clear hr hb qb
 go_wp2
 go_ret
 exact ⟨by rw [← HF.out]; rfl, HB2.out⟩
set_option maxHeartbeats 2000000 in
set_option maxRecDepth 100000 in
theorem same_tok (x y : Tok) (w0 W : World) (cs ds : List Value) (hB : Below w0.heap.size w0 W) (hK : k40.K w0 x cs) (hK2 : k40.K w0 y ds) :
 Calls Tryz.prog 29 #[.agg cs.toArray, .agg ds.toArray] W fun e W' => e = .returned (.bool (sameTok x y)) ∧ Below W.heap.size W W' := by
 obtain ⟨A4, c4, A5, c5, rfl, l4, g4, l5, g5⟩ := k40_open hK
 obtain ⟨B4, d4, B5, d5, rfl, m4, h4, m5, h5⟩ := k40_open hK2
 obtain ⟨res, hres⟩ : ∃ r, sameTok x y = r := ⟨_, rfl⟩
 have hv : sameTok x y = ((x.f0.toList == y.f0.toList) && ((x.f1 == y.f1) && ((x.f2 == y.f2) && (sameRe x.f3 y.f3)))) := rfl
 rw [hres]
 have HR : Aside0 (((x.f0.toList == y.f0.toList) && ((x.f1 == y.f1) && ((x.f2 == y.f2) && (sameRe x.f3 y.f3)))) = res) := ⟨hv.symm.trans hres⟩
 have L4 := Aside0.mk l4
 have G4 := Aside0.mk g4
 have L5 := Aside0.mk l5
 have G5 := Aside0.mk g5
 have M4 := Aside0.mk m4
 have H4 := Aside0.mk h4
 have M5 := Aside0.mk m5
 have H5 := Aside0.mk h5
 have HB := Aside0.mk hB
 clear hB hK hK2 hres hv l4 g4 l5 g5 m4 h4 m5 h5
 by_cases q0 : (x.f0.toList == y.f0.toList) = true
 rotate_left
 · have hr := HR.out
   rw [Bool.not_eq_true] at q0
   rw [q0, Bool.false_and] at hr
   have HF := Aside0.mk hr
   clear hr HR
   go_enter Tryz.func29, Tryz.ntmps29
   go_wp2
   go_ret
   exact ⟨by rw [← HF.out]; rfl, below_alloc (below1 _ _) _⟩
 by_cases q1 : (x.f1 == y.f1) = true
 rotate_left
 · have hr := HR.out
   rw [Bool.not_eq_true] at q1
   rw [q0, Bool.true_and, q1, Bool.false_and] at hr
   have HF := Aside0.mk hr
   clear hr HR
   go_enter Tryz.func29, Tryz.ntmps29
   go_wp2
   go_ret
   exact ⟨by rw [← HF.out]; rfl, below_alloc (below1 _ _) _⟩
 by_cases q2 : (x.f2 == y.f2) = true
 rotate_left
 · have hr := HR.out
   rw [Bool.not_eq_true] at q2
   rw [q0, Bool.true_and, q1, Bool.true_and, q2, Bool.false_and] at hr
   have HF := Aside0.mk hr
   clear hr HR
   go_enter Tryz.func29, Tryz.ntmps29
   go_wp2
   go_ret
   exact ⟨by rw [← HF.out]; rfl, below_alloc (below1 _ _) _⟩
 have hr := HR.out
 rw [q0, Bool.true_and, q1, Bool.true_and, q2, Bool.true_and] at hr
 have HR2 := Aside0.mk hr
 clear hr HR
 obtain ⟨w1, hw1⟩ : ∃ w1, (W.alloc (.cells #[.string x.f0, .int .i64 x.f1, .int .i64 x.f2, .int .i64 x.f3.f0, .slice A4 x.f3.f1.length c4, .slice A5 x.f3.f2.length c5] 40)).alloc (.cells #[.string y.f0, .int .i64 y.f1, .int .i64 y.f2, .int .i64 y.f3.f0, .slice B4 y.f3.f1.length d4, .slice B5 y.f3.f2.length d5] 40) = w1 := ⟨_, rfl⟩
 have HB1 : Aside0 (Below W.heap.size W w1) := ⟨hw1 ▸ below_alloc (below1 W _) _⟩
 have hn1 : w1.heap[W.heap.size]? = some (.cells #[.string x.f0, .int .i64 x.f1, .int .i64 x.f2, .int .i64 x.f3.f0, .slice A4 x.f3.f1.length c4, .slice A5 x.f3.f2.length c5] 40 (0, 0)) := by rw [← hw1]; exact blk_alloc (blk_new _ _) _
 have hn2 : w1.heap[W.heap.size + 1]? = some (.cells #[.string y.f0, .int .i64 y.f1, .int .i64 y.f2, .int .i64 y.f3.f0, .slice B4 y.f3.f1.length d4, .slice B5 y.f3.f2.length d5] 40 (0, 0)) := by
  have h := blk_new (W.alloc (.cells #[.string x.f0, .int .i64 x.f1, .int .i64 x.f2, .int .i64 x.f3.f0, .slice A4 x.f3.f1.length c4, .slice A5 x.f3.f2.length c5] 40)) (.cells #[.string y.f0, .int .i64 y.f1, .int .i64 y.f2, .int .i64 y.f3.f0, .slice B4 y.f3.f1.length d4, .slice B5 y.f3.f2.length d5] 40)
  rw [hw1] at h
  simpa using h
 have HN1 := Aside0.mk hn1
 have HN2 := Aside0.mk hn2
 have y0 : w1.cell? ⟨W.heap.size, 0, none⟩ = some (.string x.f0) := (blk_cell hn1 0).trans rfl
 have z0 : w1.cell? ⟨W.heap.size + 1, 0, none⟩ = some (.string y.f0) := (blk_cell hn2 0).trans rfl
 have y1 : w1.cell? ⟨W.heap.size, 1, none⟩ = some (.int .i64 x.f1) := (blk_cell hn1 1).trans rfl
 have z1 : w1.cell? ⟨W.heap.size + 1, 1, none⟩ = some (.int .i64 y.f1) := (blk_cell hn2 1).trans rfl
 have y2 : w1.cell? ⟨W.heap.size, 2, none⟩ = some (.int .i64 x.f2) := (blk_cell hn1 2).trans rfl
 have z2 : w1.cell? ⟨W.heap.size + 1, 2, none⟩ = some (.int .i64 y.f2) := (blk_cell hn2 2).trans rfl
 have y3 : w1.cell? ⟨W.heap.size, 3, none⟩ = some (.int .i64 x.f3.f0) := (blk_cell hn1 3).trans rfl
 have z3 : w1.cell? ⟨W.heap.size + 1, 3, none⟩ = some (.int .i64 y.f3.f0) := (blk_cell hn2 3).trans rfl
 have y4 : w1.cell? ⟨W.heap.size, 4, none⟩ = some (.slice A4 x.f3.f1.length c4) := (blk_cell hn1 4).trans rfl
 have z4 : w1.cell? ⟨W.heap.size + 1, 4, none⟩ = some (.slice B4 y.f3.f1.length d4) := (blk_cell hn2 4).trans rfl
 have y5 : w1.cell? ⟨W.heap.size, 5, none⟩ = some (.slice A5 x.f3.f2.length c5) := (blk_cell hn1 5).trans rfl
 have z5 : w1.cell? ⟨W.heap.size + 1, 5, none⟩ = some (.slice B5 y.f3.f2.length d5) := (blk_cell hn2 5).trans rfl
 clear hn1 hn2
 go_enter Tryz.func29, Tryz.ntmps29
 go_wp2_with fail
 clear hw1
 have qb := join_below HB.out HB1.out
 refine (same_re x.f3 y.f3 w0 _ _ _ qb (k38_mk w0 x.f3 L4.out G4.out L5.out G5.out) (k38_mk w0 y.f3 M4.out H4.out M5.out H5.out)).mono ?_
 rintro e w2 ⟨rfl, hb⟩
 have HB2 := Aside0.mk (join_below HB1.out hb)
 have hr := HR2.out
 have HF := Aside0.mk hr
 clear hr hb qb
 go_wp2
 go_ret
 exact ⟨by rw [← HF.out]; rfl, HB2.out⟩
def sameS (T : List Tok) (R : List Rul) (T' : List Tok) (R' : List Rul) : Bool := eqL sameTok T T' && eqL sameRul R R'
set_option maxHeartbeats 2000000 in
set_option maxRecDepth 100000 in
theorem same_any (T T' : List Tok) (R R' : List Rul) (A0 A1 B0 B1 : Option Addr) (c0 c1 d0 d1 : Nat) (W : World) (hA0 : kTok.C W A0 T.length T) (hA1 : kRul.C W A1 R.length R) (hB0 : kTok.C W B0 T'.length T') (hB1 : kRul.C W B1 R'.length R') :
 Calls Tryz.prog 9 #[.agg #[.slice A0 T.length c0, .slice A1 R.length c1], .agg #[.slice B0 T'.length d0, .slice B1 R'.length d1]] W fun e W' => e = .returned (.bool (sameS T R T' R')) ∧ Below W.heap.size W W' := by
 have HG := Aside0.mk (And.intro (And.intro hA0 hA1) (And.intro hB0 hB1))
 obtain ⟨res, hres⟩ : ∃ r, sameS T R T' R' = r := ⟨_, rfl⟩
 rw [hres]
 have HR : Aside0 ((eqL sameTok T T' && eqL sameRul R R') = res) := ⟨hres⟩
 clear hA0 hA1 hB0 hB1 hres
 obtain ⟨w1, hw1⟩ : ∃ w1, (W.alloc (.cells #[.slice A0 T.length c0, .slice A1 R.length c1] 25)).alloc (.cells #[.slice B0 T'.length d0, .slice B1 R'.length d1] 25) = w1 := ⟨_, rfl⟩
 have HB1 : Aside0 (Below W.heap.size W w1) := ⟨hw1 ▸ below_alloc (below1 W _) _⟩
 have hn1 : w1.heap[W.heap.size]? = some (.cells #[.slice A0 T.length c0, .slice A1 R.length c1] 25 (0, 0)) := by rw [← hw1]; exact blk_alloc (blk_new _ _) _
 have hn2 : w1.heap[W.heap.size + 1]? = some (.cells #[.slice B0 T'.length d0, .slice B1 R'.length d1] 25 (0, 0)) := by
  have h := blk_new (W.alloc (.cells #[.slice A0 T.length c0, .slice A1 R.length c1] 25)) (.cells #[.slice B0 T'.length d0, .slice B1 R'.length d1] 25)
  rw [hw1] at h
  simpa using h
 have HN1 := Aside0.mk hn1
 have HN2 := Aside0.mk hn2
 have y0 : w1.cell? ⟨W.heap.size, 0, none⟩ = some (.slice A0 T.length c0) := (blk_cell hn1 0).trans rfl
 have z0 : w1.cell? ⟨W.heap.size + 1, 0, none⟩ = some (.slice B0 T'.length d0) := (blk_cell hn2 0).trans rfl
 clear hn1 hn2
 go_enter Tryz.func9, Tryz.ntmps9
 go_wp2_with fail
 clear hw1
 have qb := HB1.out
 refine (toks_equal sameTok T T' A0 B0 c0 d0 W _ HG.out.1.1 HG.out.2.1 qb (fun a b cs ds W' _ _ hB' hK hK2 => same_tok a b W W' cs ds hB' hK hK2)).mono ?_
 rintro e w2 ⟨rfl, hb⟩
 have HB2 := Aside0.mk (join_below HB1.out hb)
 have hn1 := blk_below HN1.out hb
 have hn2 := blk_below HN2.out hb
 have y1 : w2.cell? ⟨W.heap.size, 1, none⟩ = some (.slice A1 R.length c1) := (blk_cell hn1 1).trans rfl
 have z1 : w2.cell? ⟨W.heap.size + 1, 1, none⟩ = some (.slice B1 R'.length d1) := (blk_cell hn2 1).trans rfl
 clear hn1 hn2 hb qb y0 z0
 have hr := HR.out
 cases hq : eqL sameTok T T'
 · rw [hq, Bool.false_and] at hr
   have HF := Aside0.mk hr
   clear hr hq
   go_wp2
   go_ret
   exact ⟨by rw [← HF.out]; rfl, HB2.out⟩
 · rw [hq, Bool.true_and] at hr
   have HF := Aside0.mk hr
   clear hr hq
   go_wp2_with fail
   refine (ruls_equal sameRul R R' A1 B1 c1 d1 W _ HG.out.1.2 HG.out.2.2 HB2.out (fun a b cs ds W' _ _ hB' hK hK2 => same_rul a b W W' cs ds hB' hK hK2)).mono ?_
   rintro e w3 ⟨rfl, hb⟩
   have HB3 := Aside0.mk (join_below HB2.out hb)
   clear hb
   go_wp2
   go_ret
   exact ⟨by rw [← HF.out]; rfl, HB3.out⟩
end Go.Proofs.YthdfmbmbjpmlaaaGreatDoor.Rn
end
