/- texts of this claim, one behind the other. -/
import Derived.Test.YthdfmbmbjpmlaaaGreatDoorMGAc
import Derived.Test.YthdfmbmbjpmlaaaGreatDoorMGAa
import Derived.Test.YthdfmbmbjpmlaaaGreatDoorMGAb
import Derived.Tactics
import Derived.Tactics2
import Derived.Defers
import Derived.Recover
import Derived.Deep.QuietTactic
import Derived.BigQuiet
section
namespace Go.Proofs.YthdfmbmbjpmlaaaGreatDoor.Rn
open Go.RowKit Go.Proofs.YthdfmbmbjpmlaaaGreatDoorW.PrintWords Go.Proofs.YthdfmbmbjpmlaaaGreatDoorW.PrintLast Go.Proofs.YthdfmbmbjpmlaaaGreatDoorW.PrintMore
attribute [local go_sem] max2_int min2_int max_two min_two max_three min_three max_four min_four   -- for this text's walks alone
set_option linter.unusedVariables false
set_option linter.unusedSimpArgs false
def regex_May.f (a0_0 : Int) (l0_1 : List (S80)) (l0_2 : List (S38)) : Option (Bool) := (regex_within.f a0_0 l0_1 l0_2).bind fun t494 => (if t494 = true then ((regex_may.f a0_0 l0_1 l0_2).bind fun t495 => (some t495)) else (some false))
set_option maxHeartbeats 8000000 in
set_option maxRecDepth 100000 in
theorem regex_May.calls (a0_0 : Int) (A0_1 : Option Addr) (c0_1 : Nat) (l0_1 : List (S80)) (A0_2 : Option Addr) (c0_2 : Nat) (l0_2 : List (S38)) (r : Bool) (w : World) (hr0_1 : Kd.C k80 w A0_1 l0_1.length l0_1) (hc0_1 : l0_1.length ≤ c0_1) (hr0_2 : Kd.C k38 w A0_2 l0_2.length l0_2) (hc0_2 : l0_2.length ≤ c0_2) (h : regex_May.f a0_0 l0_1 l0_2 = some r) :
 Calls Tryz.prog 49 #[.agg #[.int .i64 a0_0, .slice A0_1 l0_1.length c0_1, .slice A0_2 l0_2.length c0_2]] w fun e w' => e = .returned (.bool r) ∧ Below w.heap.size w w' := by
 have hu38 := Tryz.underlying38
 have HR0_1 := Aside0.mk hr0_1
 have HC0_1 := Aside0.mk hc0_1
 clear hr0_1 hc0_1
 have HR0_2 := Aside0.mk hr0_2
 have HC0_2 := Aside0.mk hc0_2
 clear hr0_2 hc0_2
 have HB := Aside0.mk (Below.refl w.heap.size w)
 have H : ((regex_within.f a0_0 l0_1 l0_2).bind fun t494 => (if t494 = true then ((regex_may.f a0_0 l0_1 l0_2).bind fun t495 => (some t495)) else (some false))) = some r := h
 clear h
 replace H := Option.bind_eq_some_iff.mp H
 obtain ⟨t494, A20, H⟩ := H
 replace H : (if t494 = true then ((regex_may.f a0_0 l0_1 l0_2).bind fun t495 => (some t495)) else (some false)) = some r := H
 have A2 := Aside0.mk A20
 clear A20
 by_cases c3 : t494 = true
 · subst c3
   have H1 : ((regex_may.f a0_0 l0_1 l0_2).bind fun t495 => (some t495)) = some r := by rw [if_pos rfl] at H; exact H
   clear H
   have H := H1
   clear H1
   replace H := Option.bind_eq_some_iff.mp H
   obtain ⟨t495, A40, H⟩ := H
   replace H : (some t495) = some r := H
   have A4 := Aside0.mk A40
   clear A40
   obtain rfl := Option.some.inj H
   go_enter Tryz.func49, Tryz.ntmps49
   go_wp2_with (first | ((with_reducible refine gate_dst (N := 1) rfl ?_); refine box_event ?hg (N := 1) ?hd (cs := #[.int .i64 a0_0, .slice A0_1 l0_1.length c0_1, .slice A0_2 l0_2.length c0_2]) (t := 38) ?hr ?_; (case hd => rfl); (case hg => rfl); (case hr => first | (go_simp; done) | (go_simp; rfl)); intro gb493 hg w5 hbox hb; have n0_ := Aside0.mk (below_step (by repeat (first | (with_reducible first | exact HB.out | apply below_alloc | apply pw_below_drewN | apply below_drew1) | exact HB.out)) hb); have n1_ := Aside0.mk (hbox); have n2_ := Aside0.mk ((by rw [hg]; exact (below_size (by repeat (first | (with_reducible first | exact HB.out | apply below_alloc | apply pw_below_drewN | apply below_drew1) | exact HB.out))) : w.heap.size ≤ gb493)); have n3_ := Aside0.mk ((by rw [hg]; exact (below_size (by repeat (first | (with_reducible first | exact HB.out | apply below_alloc | apply pw_below_drewN | apply below_drew1) | exact HB.out))) : w.heap.size ≤ gb493)); clear HB; have HB := n0_; have BK493 := n1_; have GW493 := n2_; have GE493 := n3_; clear n0_ n1_ n2_ n3_; clear hb hbox hg; have hcz6_0 : w5.cell? ⟨gb493, 0, none⟩ = some (.int .i64 a0_0) := (blk_cell BK493.out 0).trans rfl; have hcz6_1 : w5.cell? ⟨gb493, 1, none⟩ = some (.slice A0_1 l0_1.length c0_1) := (blk_cell BK493.out 1).trans rfl; have hcz6_2 : w5.cell? ⟨gb493, 2, none⟩ = some (.slice A0_2 l0_2.length c0_2) := (blk_cell BK493.out 2).trans rfl; have hfz6_0 := blk_frozen BK493.out 0; have hfz6_1 := blk_frozen BK493.out 1; have hfz6_2 := blk_frozen BK493.out 2) | ((with_reducible refine gate_callee (f := 67) rfl ?_); refine goesL_ (some 4) rfl rfl Tryz.func67 (by kernel_rfl) rfl #[.agg #[.int .i64 a0_0, .slice A0_1 l0_1.length c0_1, .slice A0_2 l0_2.length c0_2]] rfl (by (try simp only [List.map_toArray, List.map_cons, List.map_nil]); first | done | rfl | (simp only [List.length_drop, List.length_take]; rfl)) ?_; (with_reducible refine (regex_within.calls a0_0 _ _ l0_1 _ _ l0_2 true _ ?side1 ?side2 ?side3 ?side4 A2.out).mono ?_); (case side1 => repeat (first | exact (Kd.C_below HR0_1.out HB.out) | (with_reducible refine Kd.C_alloc ?_ _) | (with_reducible refine Kd.C_drewN ?_ _) | (with_reducible refine Kd.C_drew ?_))); (case side2 => exact HC0_1.out); (case side3 => repeat (first | exact (Kd.C_below HR0_2.out HB.out) | (with_reducible refine Kd.C_alloc ?_ _) | (with_reducible refine Kd.C_drewN ?_ _) | (with_reducible refine Kd.C_drew ?_))); (case side4 => exact HC0_2.out); rintro e w7 ⟨rfl, hb⟩; refine ⟨_, rfl, ?_⟩; have n0_ := Aside0.mk (blk_below (g := gb493) (o := .cells #[.int .i64 a0_0, .slice A0_1 l0_1.length c0_1, .slice A0_2 l0_2.length c0_2] 38 (0, 0)) (by (with_reducible repeat (first | refine blk_drewN ?_ _ | refine blk_drew ?_ | refine blk_alloc ?_ _)); exact BK493.out) hb); have n1_ := Aside0.mk (below_step (by repeat (first | (with_reducible first | exact HB.out | apply below_alloc | apply pw_below_drewN | apply below_drew1 | refine below_set ?_ GE493.out) | exact HB.out)) hb); clear BK493; clear HB; have BK493 := n0_; have HB := n1_; clear n0_ n1_; (try clear hb); (try clear hb2); (try clear hk); (try clear hi); have hcz8_0 : w7.cell? ⟨gb493, 0, none⟩ = some (.int .i64 a0_0) := (blk_cell BK493.out 0).trans rfl; have hcz8_1 : w7.cell? ⟨gb493, 1, none⟩ = some (.slice A0_1 l0_1.length c0_1) := (blk_cell BK493.out 1).trans rfl; have hcz8_2 : w7.cell? ⟨gb493, 2, none⟩ = some (.slice A0_2 l0_2.length c0_2) := (blk_cell BK493.out 2).trans rfl; have hfz8_0 := blk_frozen BK493.out 0; have hfz8_1 := blk_frozen BK493.out 1; have hfz8_2 := blk_frozen BK493.out 2) | (go_at_call 68; (with_reducible refine (regex_may.calls a0_0 _ _ l0_1 _ _ l0_2 t495 _ ?side1 ?side2 ?side3 ?side4 A4.out).mono ?_); (case side1 => repeat (first | exact (Kd.C_below HR0_1.out HB.out) | (with_reducible refine Kd.C_alloc ?_ _) | (with_reducible refine Kd.C_drewN ?_ _) | (with_reducible refine Kd.C_drew ?_))); (case side2 => exact HC0_1.out); (case side3 => repeat (first | exact (Kd.C_below HR0_2.out HB.out) | (with_reducible refine Kd.C_alloc ?_ _) | (with_reducible refine Kd.C_drewN ?_ _) | (with_reducible refine Kd.C_drew ?_))); (case side4 => exact HC0_2.out); rintro e w9 ⟨rfl, hb⟩; have n0_ := Aside0.mk (blk_below (g := gb493) (o := .cells #[.int .i64 a0_0, .slice A0_1 l0_1.length c0_1, .slice A0_2 l0_2.length c0_2] 38 (0, 0)) (by (with_reducible repeat (first | refine blk_drewN ?_ _ | refine blk_drew ?_ | refine blk_alloc ?_ _)); exact BK493.out) hb); have n1_ := Aside0.mk (below_step (by repeat (first | (with_reducible first | exact HB.out | apply below_alloc | apply pw_below_drewN | apply below_drew1 | refine below_set ?_ GE493.out) | exact HB.out)) hb); clear BK493; clear HB; have BK493 := n0_; have HB := n1_; clear n0_ n1_; (try clear hb); (try clear hb2); (try clear hk); (try clear hi)))
   go_ret
   exact ⟨by first | rfl | (simp [errW_none, errW_some] <;> rfl) | (simp [*, errW_none, errW_some] <;> rfl), by repeat (first | (with_reducible first | exact HB.out | apply below_alloc | apply pw_below_drewN | apply below_drew1 | refine below_set ?_ GE493.out) | exact HB.out)⟩
 · replace c3 := Bool.eq_false_iff.mpr c3
   subst c3
   have H1 : (some false) = some r := by rw [if_neg (show ¬ (false = true) by decide)] at H; exact H
   clear H
   have H := H1
   clear H1
   obtain rfl := Option.some.inj H
   go_enter Tryz.func49, Tryz.ntmps49
   go_wp2_with (first | ((with_reducible refine gate_dst (N := 1) rfl ?_); refine box_event ?hg (N := 1) ?hd (cs := #[.int .i64 a0_0, .slice A0_1 l0_1.length c0_1, .slice A0_2 l0_2.length c0_2]) (t := 38) ?hr ?_; (case hd => rfl); (case hg => rfl); (case hr => first | (go_simp; done) | (go_simp; rfl)); intro gb493 hg w10 hbox hb; have n0_ := Aside0.mk (below_step (by repeat (first | (with_reducible first | exact HB.out | apply below_alloc | apply pw_below_drewN | apply below_drew1) | exact HB.out)) hb); have n1_ := Aside0.mk (hbox); have n2_ := Aside0.mk ((by rw [hg]; exact (below_size (by repeat (first | (with_reducible first | exact HB.out | apply below_alloc | apply pw_below_drewN | apply below_drew1) | exact HB.out))) : w.heap.size ≤ gb493)); have n3_ := Aside0.mk ((by rw [hg]; exact (below_size (by repeat (first | (with_reducible first | exact HB.out | apply below_alloc | apply pw_below_drewN | apply below_drew1) | exact HB.out))) : w.heap.size ≤ gb493)); clear HB; have HB := n0_; have BK493 := n1_; have GW493 := n2_; have GE493 := n3_; clear n0_ n1_ n2_ n3_; clear hb hbox hg; have hcz11_0 : w10.cell? ⟨gb493, 0, none⟩ = some (.int .i64 a0_0) := (blk_cell BK493.out 0).trans rfl; have hcz11_1 : w10.cell? ⟨gb493, 1, none⟩ = some (.slice A0_1 l0_1.length c0_1) := (blk_cell BK493.out 1).trans rfl; have hcz11_2 : w10.cell? ⟨gb493, 2, none⟩ = some (.slice A0_2 l0_2.length c0_2) := (blk_cell BK493.out 2).trans rfl; have hfz11_0 := blk_frozen BK493.out 0; have hfz11_1 := blk_frozen BK493.out 1; have hfz11_2 := blk_frozen BK493.out 2) | ((with_reducible refine gate_callee (f := 67) rfl ?_); refine goesL_ (some 4) rfl rfl Tryz.func67 (by kernel_rfl) rfl #[.agg #[.int .i64 a0_0, .slice A0_1 l0_1.length c0_1, .slice A0_2 l0_2.length c0_2]] rfl (by (try simp only [List.map_toArray, List.map_cons, List.map_nil]); first | done | rfl | (simp only [List.length_drop, List.length_take]; rfl)) ?_; (with_reducible refine (regex_within.calls a0_0 _ _ l0_1 _ _ l0_2 false _ ?side1 ?side2 ?side3 ?side4 A2.out).mono ?_); (case side1 => repeat (first | exact (Kd.C_below HR0_1.out HB.out) | (with_reducible refine Kd.C_alloc ?_ _) | (with_reducible refine Kd.C_drewN ?_ _) | (with_reducible refine Kd.C_drew ?_))); (case side2 => exact HC0_1.out); (case side3 => repeat (first | exact (Kd.C_below HR0_2.out HB.out) | (with_reducible refine Kd.C_alloc ?_ _) | (with_reducible refine Kd.C_drewN ?_ _) | (with_reducible refine Kd.C_drew ?_))); (case side4 => exact HC0_2.out); rintro e w12 ⟨rfl, hb⟩; refine ⟨_, rfl, ?_⟩; have n0_ := Aside0.mk (blk_below (g := gb493) (o := .cells #[.int .i64 a0_0, .slice A0_1 l0_1.length c0_1, .slice A0_2 l0_2.length c0_2] 38 (0, 0)) (by (with_reducible repeat (first | refine blk_drewN ?_ _ | refine blk_drew ?_ | refine blk_alloc ?_ _)); exact BK493.out) hb); have n1_ := Aside0.mk (below_step (by repeat (first | (with_reducible first | exact HB.out | apply below_alloc | apply pw_below_drewN | apply below_drew1 | refine below_set ?_ GE493.out) | exact HB.out)) hb); clear BK493; clear HB; have BK493 := n0_; have HB := n1_; clear n0_ n1_; (try clear hb); (try clear hb2); (try clear hk); (try clear hi)))
   go_ret
   exact ⟨by first | rfl | (simp [errW_none, errW_some] <;> rfl) | (simp [*, errW_none, errW_some] <;> rfl), by repeat (first | (with_reducible first | exact HB.out | apply below_alloc | apply pw_below_drewN | apply below_drew1 | refine below_set ?_ GE493.out) | exact HB.out)⟩
def regex_Empty.f (k : Nat) (a0_0 : Int) (l0_1 : List (S80)) (l0_2 : List (S38)) : Option (Bool) := (regex_May.f a0_0 l0_1 l0_2).bind fun t506 => (if t506 = true then ((regex_empty.f k a0_0 l0_1 l0_2).bind fun t507 => (some t507)) else (some false))
theorem regex_Empty.mono : ∀ a0 a1 a2 k, LeO (regex_Empty.f k a0 a1 a2) (regex_Empty.f (k + 1) a0 a1 a2) := by
 intro a0 a1 a2 k
 unfold regex_Empty.f
 repeat' first
  | (with_reducible exact regex_empty.mono _ _ _ _)
  | (with_reducible exact LeO.refl _)
  | (with_reducible exact LeO.none _)
  | (with_reducible refine LeO.ite ?_ ?_)
  | (with_reducible refine LeO.bind ?_ (fun _ => ?_))
  | exact regex_empty.mono _ _ _ _
  | exact LeO.none _
  | refine LeO.ite ?_ ?_
  | refine LeO.bind ?_ (fun _ => ?_)
set_option maxHeartbeats 8000000 in
set_option maxRecDepth 100000 in
theorem regex_Empty.calls (k : Nat) (a0_0 : Int) (A0_1 : Option Addr) (c0_1 : Nat) (l0_1 : List (S80)) (A0_2 : Option Addr) (c0_2 : Nat) (l0_2 : List (S38)) (r : Bool) (w : World) (hr0_1 : Kd.C k80 w A0_1 l0_1.length l0_1) (hc0_1 : l0_1.length ≤ c0_1) (hr0_2 : Kd.C k38 w A0_2 l0_2.length l0_2) (hc0_2 : l0_2.length ≤ c0_2) (h : regex_Empty.f k a0_0 l0_1 l0_2 = some r) :
 Calls Tryz.prog 50 #[.agg #[.int .i64 a0_0, .slice A0_1 l0_1.length c0_1, .slice A0_2 l0_2.length c0_2]] w fun e w' => e = .returned (.bool r) ∧ Below w.heap.size w w' := by
 have hu38 := Tryz.underlying38
 have HR0_1 := Aside0.mk hr0_1
 have HC0_1 := Aside0.mk hc0_1
 clear hr0_1 hc0_1
 have HR0_2 := Aside0.mk hr0_2
 have HC0_2 := Aside0.mk hc0_2
 clear hr0_2 hc0_2
 have HB := Aside0.mk (Below.refl w.heap.size w)
 have H : ((regex_May.f a0_0 l0_1 l0_2).bind fun t506 => (if t506 = true then ((regex_empty.f k a0_0 l0_1 l0_2).bind fun t507 => (some t507)) else (some false))) = some r := h
 clear h
 replace H := Option.bind_eq_some_iff.mp H
 obtain ⟨t506, A20, H⟩ := H
 replace H : (if t506 = true then ((regex_empty.f k a0_0 l0_1 l0_2).bind fun t507 => (some t507)) else (some false)) = some r := H
 have A2 := Aside0.mk A20
 clear A20
 by_cases c3 : t506 = true
 · subst c3
   have H1 : ((regex_empty.f k a0_0 l0_1 l0_2).bind fun t507 => (some t507)) = some r := by rw [if_pos rfl] at H; exact H
   clear H
   have H := H1
   clear H1
   replace H := Option.bind_eq_some_iff.mp H
   obtain ⟨t507, A40, H⟩ := H
   replace H : (some t507) = some r := H
   have A4 := Aside0.mk A40
   clear A40
   obtain rfl := Option.some.inj H
   go_enter Tryz.func50, Tryz.ntmps50
   go_wp2_with (first | ((with_reducible refine gate_dst (N := 1) rfl ?_); refine box_event ?hg (N := 1) ?hd (cs := #[.int .i64 a0_0, .slice A0_1 l0_1.length c0_1, .slice A0_2 l0_2.length c0_2]) (t := 38) ?hr ?_; (case hd => rfl); (case hg => rfl); (case hr => first | (go_simp; done) | (go_simp; rfl)); intro gb505 hg w5 hbox hb; have n0_ := Aside0.mk (below_step (by repeat (first | (with_reducible first | exact HB.out | apply below_alloc | apply pw_below_drewN | apply below_drew1) | exact HB.out)) hb); have n1_ := Aside0.mk (hbox); have n2_ := Aside0.mk ((by rw [hg]; exact (below_size (by repeat (first | (with_reducible first | exact HB.out | apply below_alloc | apply pw_below_drewN | apply below_drew1) | exact HB.out))) : w.heap.size ≤ gb505)); have n3_ := Aside0.mk ((by rw [hg]; exact (below_size (by repeat (first | (with_reducible first | exact HB.out | apply below_alloc | apply pw_below_drewN | apply below_drew1) | exact HB.out))) : w.heap.size ≤ gb505)); clear HB; have HB := n0_; have BK505 := n1_; have GW505 := n2_; have GE505 := n3_; clear n0_ n1_ n2_ n3_; clear hb hbox hg; have hcz6_0 : w5.cell? ⟨gb505, 0, none⟩ = some (.int .i64 a0_0) := (blk_cell BK505.out 0).trans rfl; have hcz6_1 : w5.cell? ⟨gb505, 1, none⟩ = some (.slice A0_1 l0_1.length c0_1) := (blk_cell BK505.out 1).trans rfl; have hcz6_2 : w5.cell? ⟨gb505, 2, none⟩ = some (.slice A0_2 l0_2.length c0_2) := (blk_cell BK505.out 2).trans rfl; have hfz6_0 := blk_frozen BK505.out 0; have hfz6_1 := blk_frozen BK505.out 1; have hfz6_2 := blk_frozen BK505.out 2) | ((with_reducible refine gate_callee (f := 49) rfl ?_); refine goesL_ (some 4) rfl rfl Tryz.func49 (by kernel_rfl) rfl #[.agg #[.int .i64 a0_0, .slice A0_1 l0_1.length c0_1, .slice A0_2 l0_2.length c0_2]] rfl (by (try simp only [List.map_toArray, List.map_cons, List.map_nil]); first | done | rfl | (simp only [List.length_drop, List.length_take]; rfl)) ?_; (with_reducible refine (regex_May.calls a0_0 _ _ l0_1 _ _ l0_2 true _ ?side1 ?side2 ?side3 ?side4 A2.out).mono ?_); (case side1 => repeat (first | exact (Kd.C_below HR0_1.out HB.out) | (with_reducible refine Kd.C_alloc ?_ _) | (with_reducible refine Kd.C_drewN ?_ _) | (with_reducible refine Kd.C_drew ?_))); (case side2 => exact HC0_1.out); (case side3 => repeat (first | exact (Kd.C_below HR0_2.out HB.out) | (with_reducible refine Kd.C_alloc ?_ _) | (with_reducible refine Kd.C_drewN ?_ _) | (with_reducible refine Kd.C_drew ?_))); (case side4 => exact HC0_2.out); rintro e w7 ⟨rfl, hb⟩; refine ⟨_, rfl, ?_⟩; have n0_ := Aside0.mk (blk_below (g := gb505) (o := .cells #[.int .i64 a0_0, .slice A0_1 l0_1.length c0_1, .slice A0_2 l0_2.length c0_2] 38 (0, 0)) (by (with_reducible repeat (first | refine blk_drewN ?_ _ | refine blk_drew ?_ | refine blk_alloc ?_ _)); exact BK505.out) hb); have n1_ := Aside0.mk (below_step (by repeat (first | (with_reducible first | exact HB.out | apply below_alloc | apply pw_below_drewN | apply below_drew1 | refine below_set ?_ GE505.out) | exact HB.out)) hb); clear BK505; clear HB; have BK505 := n0_; have HB := n1_; clear n0_ n1_; (try clear hb); (try clear hb2); (try clear hk); (try clear hi); have hcz8_0 : w7.cell? ⟨gb505, 0, none⟩ = some (.int .i64 a0_0) := (blk_cell BK505.out 0).trans rfl; have hcz8_1 : w7.cell? ⟨gb505, 1, none⟩ = some (.slice A0_1 l0_1.length c0_1) := (blk_cell BK505.out 1).trans rfl; have hcz8_2 : w7.cell? ⟨gb505, 2, none⟩ = some (.slice A0_2 l0_2.length c0_2) := (blk_cell BK505.out 2).trans rfl; have hfz8_0 := blk_frozen BK505.out 0; have hfz8_1 := blk_frozen BK505.out 1; have hfz8_2 := blk_frozen BK505.out 2) | (go_at_call 69; (with_reducible refine (regex_empty.calls k a0_0 _ _ l0_1 _ _ l0_2 t507 _ ?side1 ?side2 ?side3 ?side4 A4.out).mono ?_); (case side1 => repeat (first | exact (Kd.C_below HR0_1.out HB.out) | (with_reducible refine Kd.C_alloc ?_ _) | (with_reducible refine Kd.C_drewN ?_ _) | (with_reducible refine Kd.C_drew ?_))); (case side2 => exact HC0_1.out); (case side3 => repeat (first | exact (Kd.C_below HR0_2.out HB.out) | (with_reducible refine Kd.C_alloc ?_ _) | (with_reducible refine Kd.C_drewN ?_ _) | (with_reducible refine Kd.C_drew ?_))); (case side4 => exact HC0_2.out); rintro e w9 ⟨rfl, hb⟩; have n0_ := Aside0.mk (blk_below (g := gb505) (o := .cells #[.int .i64 a0_0, .slice A0_1 l0_1.length c0_1, .slice A0_2 l0_2.length c0_2] 38 (0, 0)) (by (with_reducible repeat (first | refine blk_drewN ?_ _ | refine blk_drew ?_ | refine blk_alloc ?_ _)); exact BK505.out) hb); have n1_ := Aside0.mk (below_step (by repeat (first | (with_reducible first | exact HB.out | apply below_alloc | apply pw_below_drewN | apply below_drew1 | refine below_set ?_ GE505.out) | exact HB.out)) hb); clear BK505; clear HB; have BK505 := n0_; have HB := n1_; clear n0_ n1_; (try clear hb); (try clear hb2); (try clear hk); (try clear hi)))
   go_ret
   exact ⟨by first | rfl | (simp [errW_none, errW_some] <;> rfl) | (simp [*, errW_none, errW_some] <;> rfl), by repeat (first | (with_reducible first | exact HB.out | apply below_alloc | apply pw_below_drewN | apply below_drew1 | refine below_set ?_ GE505.out) | exact HB.out)⟩
 · replace c3 := Bool.eq_false_iff.mpr c3
   subst c3
   have H1 : (some false) = some r := by rw [if_neg (show ¬ (false = true) by decide)] at H; exact H
   clear H
   have H := H1
   clear H1
   obtain rfl := Option.some.inj H
   go_enter Tryz.func50, Tryz.ntmps50
   go_wp2_with (first | ((with_reducible refine gate_dst (N := 1) rfl ?_); refine box_event ?hg (N := 1) ?hd (cs := #[.int .i64 a0_0, .slice A0_1 l0_1.length c0_1, .slice A0_2 l0_2.length c0_2]) (t := 38) ?hr ?_; (case hd => rfl); (case hg => rfl); (case hr => first | (go_simp; done) | (go_simp; rfl)); intro gb505 hg w10 hbox hb; have n0_ := Aside0.mk (below_step (by repeat (first | (with_reducible first | exact HB.out | apply below_alloc | apply pw_below_drewN | apply below_drew1) | exact HB.out)) hb); have n1_ := Aside0.mk (hbox); have n2_ := Aside0.mk ((by rw [hg]; exact (below_size (by repeat (first | (with_reducible first | exact HB.out | apply below_alloc | apply pw_below_drewN | apply below_drew1) | exact HB.out))) : w.heap.size ≤ gb505)); have n3_ := Aside0.mk ((by rw [hg]; exact (below_size (by repeat (first | (with_reducible first | exact HB.out | apply below_alloc | apply pw_below_drewN | apply below_drew1) | exact HB.out))) : w.heap.size ≤ gb505)); clear HB; have HB := n0_; have BK505 := n1_; have GW505 := n2_; have GE505 := n3_; clear n0_ n1_ n2_ n3_; clear hb hbox hg; have hcz11_0 : w10.cell? ⟨gb505, 0, none⟩ = some (.int .i64 a0_0) := (blk_cell BK505.out 0).trans rfl; have hcz11_1 : w10.cell? ⟨gb505, 1, none⟩ = some (.slice A0_1 l0_1.length c0_1) := (blk_cell BK505.out 1).trans rfl; have hcz11_2 : w10.cell? ⟨gb505, 2, none⟩ = some (.slice A0_2 l0_2.length c0_2) := (blk_cell BK505.out 2).trans rfl; have hfz11_0 := blk_frozen BK505.out 0; have hfz11_1 := blk_frozen BK505.out 1; have hfz11_2 := blk_frozen BK505.out 2) | ((with_reducible refine gate_callee (f := 49) rfl ?_); refine goesL_ (some 4) rfl rfl Tryz.func49 (by kernel_rfl) rfl #[.agg #[.int .i64 a0_0, .slice A0_1 l0_1.length c0_1, .slice A0_2 l0_2.length c0_2]] rfl (by (try simp only [List.map_toArray, List.map_cons, List.map_nil]); first | done | rfl | (simp only [List.length_drop, List.length_take]; rfl)) ?_; (with_reducible refine (regex_May.calls a0_0 _ _ l0_1 _ _ l0_2 false _ ?side1 ?side2 ?side3 ?side4 A2.out).mono ?_); (case side1 => repeat (first | exact (Kd.C_below HR0_1.out HB.out) | (with_reducible refine Kd.C_alloc ?_ _) | (with_reducible refine Kd.C_drewN ?_ _) | (with_reducible refine Kd.C_drew ?_))); (case side2 => exact HC0_1.out); (case side3 => repeat (first | exact (Kd.C_below HR0_2.out HB.out) | (with_reducible refine Kd.C_alloc ?_ _) | (with_reducible refine Kd.C_drewN ?_ _) | (with_reducible refine Kd.C_drew ?_))); (case side4 => exact HC0_2.out); rintro e w12 ⟨rfl, hb⟩; refine ⟨_, rfl, ?_⟩; have n0_ := Aside0.mk (blk_below (g := gb505) (o := .cells #[.int .i64 a0_0, .slice A0_1 l0_1.length c0_1, .slice A0_2 l0_2.length c0_2] 38 (0, 0)) (by (with_reducible repeat (first | refine blk_drewN ?_ _ | refine blk_drew ?_ | refine blk_alloc ?_ _)); exact BK505.out) hb); have n1_ := Aside0.mk (below_step (by repeat (first | (with_reducible first | exact HB.out | apply below_alloc | apply pw_below_drewN | apply below_drew1 | refine below_set ?_ GE505.out) | exact HB.out)) hb); clear BK505; clear HB; have BK505 := n0_; have HB := n1_; clear n0_ n1_; (try clear hb); (try clear hb2); (try clear hk); (try clear hi)))
   go_ret
   exact ⟨by first | rfl | (simp [errW_none, errW_some] <;> rfl) | (simp [*, errW_none, errW_some] <;> rfl), by repeat (first | (with_reducible first | exact HB.out | apply below_alloc | apply pw_below_drewN | apply below_drew1 | refine below_set ?_ GE505.out) | exact HB.out)⟩
end Go.Proofs.YthdfmbmbjpmlaaaGreatDoor.Rn
end
section
set_option linter.unusedVariables false
set_option linter.unusedSimpArgs false
namespace Go.Proofs.YthdfmbmbjpmlaaaGreatDoor.Rn
open Go Go.RowKit Go.Proofs.YthdfmbmbjpmlaaaGreatDoorW.PrintWords Go.Proofs.YthdfmbmbjpmlaaaGreatDoorW.PrintLast Go.Proofs.YthdfmbmbjpmlaaaGreatDoorW.PrintMore
def tokS (M E : Tok → Bool) (T : List Tok) (t : Tok) (i : Nat) : Option Int :=
 if (nameS t.f0 && (findS T t.f0 0 == (i : Int))) = true then
  (if (t.f1 == 0 || t.f1 == 1 || t.f1 == 2) = true then
   orS (classS t.f2) (if M t = true then (if E t = false then none else some 11) else some 6)
  else some 5)
 else some 4
structure TokOk (M E : Tok → Bool) (t : Tok) : Prop where
 s : t.f0.size ≤ 9223372036854775807
 m : regex_May.f t.f3.f0 t.f3.f1 t.f3.f2 = some (M t)
 e : M t = true → ∃ k, regex_Empty.f k t.f3.f0 t.f3.f1 t.f3.f2 = some (E t)
set_option maxHeartbeats 4000000 in
set_option maxRecDepth 100000 in
theorem token_any (M E : Tok → Bool) (T : List Tok) (i : Nat) (t : Tok) (hi : T[i]? = some t) (ht : TokOk M E t) (bc : Nat) (AT : Option Addr) (ct : Nat) (AR : Option Addr) (R : List Rul) (cr : Nat) (wh : Int) (W : World) (hc : CourtAt bc AT T ct AR R cr wh W) (hT : kTok.C W AT T.length T) (hO : OwnAt W) :
 Calls Tryz.prog 23 #[.pointer (some ⟨bc, 0, none⟩), .int .i64 i] W (CourtPost wh (tokS M E T t i) W) := by
 have hlt : i < T.length := (List.getElem?_eq_some_iff.1 hi).1
 obtain ⟨g, o, rfl, hgl, hcell⟩ := row_cells hT (by omega) (by decide)
 obtain ⟨cs, _, hK, hcc⟩ := hcell i t hi
 obtain ⟨A4, c4, A5, c5, rfl, q4, C4, q5, C5⟩ := k40_open hK
 have v0 := hcc 0 (.string t.f0) rfl
 have v1 := hcc 1 (.int .i64 t.f1) rfl
 have v2 := hcc 2 (.int .i64 t.f2) rfl
 have v3 := hcc 3 (.int .i64 t.f3.f0) rfl
 have v4 := hcc 4 (.slice A4 t.f3.f1.length c4) rfl
 have v5 := hcc 5 (.slice A5 t.f3.f2.length c5) rfl
 rw [Nat.add_zero] at v0
 simp only [show kTok.sz = 6 from rfl] at v0 v1 v2 v3 v4 v5
 obtain ⟨w1, hw1⟩ : ∃ w1, W.alloc (.cells #[.string t.f0, .int .i64 t.f1, .int .i64 t.f2, .int .i64 t.f3.f0, .slice A4 t.f3.f1.length c4, .slice A5 t.f3.f2.length c5] 40) = w1 := ⟨_, rfl⟩
 have hnew : w1.heap[W.heap.size]? = some (.cells #[.string t.f0, .int .i64 t.f1, .int .i64 t.f2, .int .i64 t.f3.f0, .slice A4 t.f3.f1.length c4, .slice A5 t.f3.f2.length c5] 40 (0, 0)) := by rw [← hw1]; exact blk_new _ _
 have hB1 : Below W.heap.size W w1 := hw1 ▸ below1 W _
 have b0 : W.cell? ⟨bc, 0, none⟩ = some (.slice (some ⟨g, o, none⟩) T.length ct) := (blk_cell hc 0).trans rfl
 have hc1 := CourtAt.later hc hB1
 have qa : ∀ p : Later w1, p.wx.cell? ⟨bc, 0, none⟩ = some (.slice (some ⟨g, o, none⟩) T.length ct) := fun p => cell_after p.below ((blk_cell hc1 0).trans rfl)
 have qb : ∀ p : Later w1, p.wx.cell? ⟨bc, 1, none⟩ = some (.slice AR R.length cr) := fun p => cell_after p.below ((blk_cell hc1 1).trans rfl)
 have q0 : ∀ p : Later w1, p.wx.cell? ⟨W.heap.size, 0, none⟩ = some (.string t.f0) := fun p => cell_after p.below ((blk_cell hnew 0).trans rfl)
 have HLAT : Aside0 (Below w1.heap.size w1 w1.drew) := ⟨below_drew1 (Below.refl _ _)⟩
 have HB1 := Aside0.mk hB1
 have HN := Aside0.mk hnew
 have HC := Aside0.mk hc
 have HT := Aside0.mk hT
 have HO := Aside0.mk hO
 have HTK := Aside0.mk ht
 have HC4 := Aside0.mk (And.intro q4 C4)
 have HC5 := Aside0.mk (And.intro q5 C5)
 obtain ⟨res, hres⟩ : ∃ res, tokS M E T t i = res := ⟨_, rfl⟩
 have HR0 := Aside0.mk hres
 rw [hres]
 have hil : (i : Int) < T.length := by omega
 clear hi ht hc hT hO hcell hcc hK hnew hB1 hc1 q4 C4 q5 C5 hres hlt
 go_enter Tryz.func23, Tryz.ntmps23
 go_wp2
 clear hw1 v0 v1 v2 v3 v4 v5 b0
 have hund : undef = Value.tuple #[] := rfl
 refine wp_region_held (S := fun w' => ∃ p : Later w1, w' = p.wx) (by kernel_rfl) ?_
 change wpAnyH _ _ _ _ _ _ _ _ (World.drew _)
 iterate 3 ((first | refine takeR (i := 0) (by decide +kernel) (by rfl) ?_ ?_ ?_ | refine takeR (i := 1) (by decide +kernel) (by rfl) ?_ ?_ ?_ | refine takeR (i := 2) (by decide +kernel) (by rfl) ?_ ?_ ?_); (focus first | exact fun _ _ _ _ h => h | exact fun _ _ _ _ h => HPQ.out _ _ _ _ (by rfl) h); (focus exact ⟨⟨_, HLAT.out⟩, rfl⟩); intro K hK; go_simp; (with_reducible refine hK _ ?_); clear hK K)
 refine hall1 (i := 3) (by kernel_rfl) (by rfl) (fun K hK => ?_)
 go_simp
 refine (name_any t.f0 HTK.out.s _ (Kd.C_below HO.out (join_below HB1.out HLAT.out))).mono ?_
 rintro e u1 ⟨rfl, hd⟩
 have HU1 : Aside0 (Below w1.heap.size w1 u1) := ⟨join_below HLAT.out hd⟩
 clear hd
 refine hK _ _ ⟨⟨_, HU1.out⟩, rfl⟩ ?_
 clear hK K
 have hR := HR0.out
 unfold tokS at hR
 obtain ⟨bn, hbn⟩ : ∃ b, nameS t.f0 = b := ⟨_, rfl⟩
 rw [hbn] at hR
 rw [hbn]
 have HR1 := Aside0.mk hR
 clear hR HR0 hbn
 cases bn
 · have HRN : Aside0 (res = some 4) := ⟨HR1.out.symm⟩
   clear HR1
   iterate 8 ((first | refine takeR (i := 4) (by decide +kernel) (by rfl) ?_ ?_ ?_ | refine takeR (i := 5) (by decide +kernel) (by rfl) ?_ ?_ ?_ | refine takeR (i := 6) (by decide +kernel) (by rfl) ?_ ?_ ?_ | refine takeR (i := 7) (by decide +kernel) (by rfl) ?_ ?_ ?_ | refine takeR (i := 8) (by decide +kernel) (by rfl) ?_ ?_ ?_ | refine takeR (i := 9) (by decide +kernel) (by rfl) ?_ ?_ ?_ | refine takeR (i := 10) (by decide +kernel) (by rfl) ?_ ?_ ?_ | refine takeR (i := 11) (by decide +kernel) (by rfl) ?_ ?_ ?_); (focus first | exact fun _ _ _ _ h => h | exact fun _ _ _ _ h => HPQ.out _ _ _ _ (by rfl) h); (focus exact ⟨⟨_, HU1.out⟩, rfl⟩); intro K hK; go_simp; (with_reducible refine hK _ ?_); clear hK K)
   iterate 3 ((first | refine takeR (i := 12) (by decide +kernel) (by rfl) ?_ ?_ ?_ | refine takeR (i := 13) (by decide +kernel) (by rfl) ?_ ?_ ?_ | refine takeR (i := 14) (by decide +kernel) (by rfl) ?_ ?_ ?_); (focus first | exact fun _ _ _ _ h => h | exact fun _ _ _ _ h => HPQ.out _ _ _ _ (by rfl) h); (focus exact ⟨⟨_, HU1.out⟩, rfl⟩); intro K hK; go_simp; (with_reducible refine hK _ ?_); clear hK K)
   refine hall1 (i := 15) (by kernel_rfl) (by rfl) (fun K hK => ?_)
   go_simp
   refine (must_no 4 (CourtAt.later HC.out (join_below HB1.out HU1.out))).mono ?_
   rintro e u2 ⟨rfl, hd⟩
   have HU2 : Aside0 (Below w1.heap.size w1 u2) := ⟨join_below HU1.out hd⟩
   clear hd hK
   go_wp2
   exact ⟨rfl, by rw [HRN.out]; exact CourtPost.bad (join_below HB1.out HU2.out)⟩
 · have HR2 : Aside0 ((if (findS T t.f0 0 == (i : Int)) = true then
    if (t.f1 == 0 || t.f1 == 1 || t.f1 == 2) = true then
     orS (classS t.f2) (if M t = true then if E t = false then none else some 11 else some 6)
    else some 5
    else some 4) = res) := ⟨HR1.out⟩
   clear HR1
   iterate 8 ((first | refine takeR (i := 4) (by decide +kernel) (by rfl) ?_ ?_ ?_ | refine takeR (i := 5) (by decide +kernel) (by rfl) ?_ ?_ ?_ | refine takeR (i := 6) (by decide +kernel) (by rfl) ?_ ?_ ?_ | refine takeR (i := 7) (by decide +kernel) (by rfl) ?_ ?_ ?_ | refine takeR (i := 8) (by decide +kernel) (by rfl) ?_ ?_ ?_ | refine takeR (i := 9) (by decide +kernel) (by rfl) ?_ ?_ ?_ | refine takeR (i := 10) (by decide +kernel) (by rfl) ?_ ?_ ?_ | refine takeR (i := 12) (by decide +kernel) (by rfl) ?_ ?_ ?_); (focus first | exact fun _ _ _ _ h => h | exact fun _ _ _ _ h => HPQ.out _ _ _ _ (by rfl) h); (focus exact ⟨⟨_, HU1.out⟩, rfl⟩); intro K hK; go_simp; (with_reducible refine hK _ ?_); clear hK K)
   refine hall1 (i := 11) (by kernel_rfl) (by rfl) (fun K hK => ?_)
   go_simp
   refine (find_any T _ AR ct cr R.length t.f0 _ (Kd.C_below HT.out (join_below HB1.out HU1.out))).mono ?_
   rintro e u2 ⟨rfl, hd⟩
   have HU2 : Aside0 (Below w1.heap.size w1 u2) := ⟨join_below HU1.out hd⟩
   clear hd
   refine hK _ _ ⟨⟨_, HU2.out⟩, rfl⟩ ?_
   clear hK K HU1
   obtain ⟨bf, hbf⟩ : ∃ b, (findS T t.f0 0 == (i : Int)) = b := ⟨_, rfl⟩
   have hR := HR2.out
   rw [hbf] at hR
   have HR3 := Aside0.mk hR
   clear hR HR2
   generalize findS T t.f0 0 = fi at hbf
   iterate 2 ((first | refine takeR (i := 13) (by decide +kernel) (by rfl) ?_ ?_ ?_ | refine takeR (i := 14) (by decide +kernel) (by rfl) ?_ ?_ ?_); (focus first | exact fun _ _ _ _ h => h | exact fun _ _ _ _ h => HPQ.out _ _ _ _ (by rfl) h); (focus exact ⟨⟨_, HU2.out⟩, rfl⟩); intro K hK; go_simp; (with_reducible refine hK _ ?_); clear hK K)
   cases bf
   · have HRN : Aside0 (res = some 4) := ⟨HR3.out.symm⟩
     clear HR3
     refine hall1 (i := 15) (by kernel_rfl) (by rfl) (fun K hK => ?_)
     go_simp
     refine (must_no 4 (CourtAt.later HC.out (join_below HB1.out HU2.out))).mono ?_
     rintro e u3 ⟨rfl, hd⟩
     have HU3 : Aside0 (Below w1.heap.size w1 u3) := ⟨join_below HU2.out hd⟩
     clear hd hK
     go_wp2
     exact ⟨rfl, by rw [HRN.out]; exact CourtPost.bad (join_below HB1.out HU3.out)⟩
   · have HR4 : Aside0 ((if (t.f1 == 0 || t.f1 == 1 || t.f1 == 2) = true then
      orS (classS t.f2) (if M t = true then if E t = false then none else some 11 else some 6)
       else some 5) = res) := ⟨HR3.out⟩
     clear HR3
     refine hall1 (i := 15) (by kernel_rfl) (by rfl) (fun K hK => ?_)
     go_simp
     refine (must_yes 4 (CourtAt.later HC.out (join_below HB1.out HU2.out))).mono ?_
     rintro e u3 ⟨rfl, hd⟩
     have HU3 : Aside0 (Below w1.heap.size w1 u3) := ⟨join_below HU2.out hd⟩
     clear hd
     refine hK _ _ ⟨⟨_, HU3.out⟩, rfl⟩ ?_
     clear hK K HU2
     refine wpAnyH_done (by kernel_rfl) ?_ _
     clear q0 qa qb hbf
     have hR := HR4.out
     clear HR4 hil
     have y1 : u3.cell? ⟨W.heap.size, 1, none⟩ = some (.int .i64 t.f1) := (blk_cell (blk_below HN.out HU3.out) 1).trans rfl
     have hk : (t.f1 == 0) = true ∨ ((t.f1 == 0) = false ∧ (t.f1 == 1) = true) ∨ ((t.f1 == 0) = false ∧ (t.f1 == 1) = false ∧ (t.f1 == 2) = true) ∨ ((t.f1 == 0) = false ∧ (t.f1 == 1) = false ∧ (t.f1 == 2) = false) := by
      cases (t.f1 == 0) <;> cases (t.f1 == 1) <;> cases (t.f1 == 2) <;> simp
     rcases hk with e1 | ⟨e1, e2⟩ | ⟨e1, e2, e3⟩ | ⟨e1, e2, e3⟩
     case inr.inr.inr =>
      rw [e1, e2, e3] at hR
      have HRN : Aside0 (res = some 5) := ⟨hR.symm⟩
      clear hR
      go_wp2_with fail
      refine (must_no 5 (CourtAt.later HC.out (join_below HB1.out HU3.out))).mono ?_
      rintro e u4 ⟨rfl, hd⟩
      have HU4 : Aside0 (Below w1.heap.size w1 u4) := ⟨join_below HU3.out hd⟩
      clear hd y1
      go_wp2
      exact ⟨rfl, by rw [HRN.out]; exact CourtPost.bad (join_below HB1.out HU4.out)⟩
     all_goals
      have HR5 : Aside0 (orS (classS t.f2) (if M t = true then if E t = false then none else some 11 else some 6) = res) := by
       refine ⟨?_⟩
       first | rw [e1, e2, e3] at hR | rw [e1, e2] at hR | rw [e1] at hR
       exact hR
      clear hR
      go_wp2_with fail
      refine (must_yes 5 (CourtAt.later HC.out (join_below HB1.out HU3.out))).mono ?_
      rintro e u4 ⟨rfl, hd⟩
      have HU4 : Aside0 (Below w1.heap.size w1 u4) := ⟨join_below HU3.out hd⟩
      clear hd y1 e1
      try clear e2
      try clear e3
      have y2 : u4.cell? ⟨W.heap.size, 2, none⟩ = some (.int .i64 t.f2) := (blk_cell (blk_below HN.out HU4.out) 2).trans rfl
      go_wp2_with fail
      refine (class_any bc _ T ct AR R cr wh t.f2 _ (CourtAt.later HC.out (join_below HB1.out HU4.out))).mono ?_
      rintro e u5 ⟨hd, he⟩
      have HU5 : Aside0 (Below w1.heap.size w1 u5) := ⟨join_below HU4.out hd⟩
      clear hd y2
      have hR := HR5.out
      clear HR5
      generalize classS t.f2 = r1 at he hR
      cases r1 with
      | some c =>
       have he' : e = .panicked [{ v := faultV c wh, recovered := false }] := he
       subst he'
       have HRN : Aside0 (res = some c) := ⟨hR.symm⟩
       clear he hR
       go_wp2
       exact ⟨rfl, by rw [HRN.out]; exact CourtPost.bad (join_below HB1.out HU5.out)⟩
      | none =>
       have he' : e = .returned (.tuple #[]) := he
       subst he'
       have HR6 : Aside0 ((if M t = true then if E t = false then none else some 11 else some 6) = res) := ⟨hR⟩
       clear he hR
       have hnew := blk_below HN.out HU5.out
       have y3 : u5.cell? ⟨W.heap.size, 3, none⟩ = some (.int .i64 t.f3.f0) := (blk_cell hnew 3).trans rfl
       have y4 : u5.cell? ⟨W.heap.size, 4, none⟩ = some (.slice A4 t.f3.f1.length c4) := (blk_cell hnew 4).trans rfl
       have y5 : u5.cell? ⟨W.heap.size, 5, none⟩ = some (.slice A5 t.f3.f2.length c5) := (blk_cell hnew 5).trans rfl
       clear hnew
       go_wp2_with fail
       refine (regex_May.calls t.f3.f0 A4 c4 t.f3.f1 A5 c5 t.f3.f2 (M t) _ (Kd.C_below HC4.out.2 (join_below HB1.out HU5.out)) HC4.out.1 (Kd.C_below HC5.out.2 (join_below HB1.out HU5.out)) HC5.out.1 HTK.out.m).mono ?_
       rintro e u6 ⟨rfl, hd⟩
       have HU6 : Aside0 (Below w1.heap.size w1 u6) := ⟨join_below HU5.out hd⟩
       clear hd y3 y4 y5
       have hR := HR6.out
       clear HR6
       obtain ⟨bm, hbm⟩ : ∃ b, M t = b := ⟨_, rfl⟩
       rw [hbm] at hR
       rw [hbm]
       have HM := Aside0.mk hbm
       clear hbm
       cases bm
       · have HRN : Aside0 (res = some 6) := ⟨hR.symm⟩
         clear hR
         go_wp2_with fail
         refine (must_no 6 (CourtAt.later HC.out (join_below HB1.out HU6.out))).mono ?_
         rintro e u7 ⟨rfl, hd⟩
         have HU7 : Aside0 (Below w1.heap.size w1 u7) := ⟨join_below HU6.out hd⟩
         clear hd
         go_wp2
         exact ⟨rfl, by rw [HRN.out]; exact CourtPost.bad (join_below HB1.out HU7.out)⟩
       · have HR7 : Aside0 ((if E t = false then none else some 11) = res) := ⟨hR⟩
         clear hR
         go_wp2_with fail
         refine (must_yes 6 (CourtAt.later HC.out (join_below HB1.out HU6.out))).mono ?_
         rintro e u7 ⟨rfl, hd⟩
         have HU7 : Aside0 (Below w1.heap.size w1 u7) := ⟨join_below HU6.out hd⟩
         clear hd
         obtain ⟨ke, hke⟩ := HTK.out.e HM.out
         have HKE := Aside0.mk hke
         have hnew := blk_below HN.out HU7.out
         have y3 : u7.cell? ⟨W.heap.size, 3, none⟩ = some (.int .i64 t.f3.f0) := (blk_cell hnew 3).trans rfl
         have y4 : u7.cell? ⟨W.heap.size, 4, none⟩ = some (.slice A4 t.f3.f1.length c4) := (blk_cell hnew 4).trans rfl
         have y5 : u7.cell? ⟨W.heap.size, 5, none⟩ = some (.slice A5 t.f3.f2.length c5) := (blk_cell hnew 5).trans rfl
         clear hnew hke
         go_wp2_with fail
         refine (regex_Empty.calls ke t.f3.f0 A4 c4 t.f3.f1 A5 c5 t.f3.f2 (E t) _ (Kd.C_below HC4.out.2 (join_below HB1.out HU7.out)) HC4.out.1 (Kd.C_below HC5.out.2 (join_below HB1.out HU7.out)) HC5.out.1 HKE.out).mono ?_
         rintro e u8 ⟨rfl, hd⟩
         have HU8 : Aside0 (Below w1.heap.size w1 u8) := ⟨join_below HU7.out hd⟩
         clear hd y3 y4 y5
         have hR := HR7.out
         clear HR7
         generalize E t = be at hR
         cases be
         · have HRN : Aside0 (res = none) := ⟨hR.symm⟩
           clear hR
           go_wp2_with fail
           refine (must_yes 11 (CourtAt.later HC.out (join_below HB1.out HU8.out))).mono ?_
           rintro e u9 ⟨rfl, hd⟩
           have HU9 : Aside0 (Below w1.heap.size w1 u9) := ⟨join_below HU8.out hd⟩
           clear hd
           go_wp2
           first | go_end0 | refine bodyPost_ret (results_none rfl _ _ _) rfl ?_
           rw [HRN.out]
           exact CourtPost.ok (join_below HB1.out HU9.out)
         · have HRN : Aside0 (res = some 11) := ⟨hR.symm⟩
           clear hR
           go_wp2_with fail
           refine (must_no 11 (CourtAt.later HC.out (join_below HB1.out HU8.out))).mono ?_
           rintro e u9 ⟨rfl, hd⟩
           have HU9 : Aside0 (Below w1.heap.size w1 u9) := ⟨join_below HU8.out hd⟩
           clear hd
           go_wp2
           exact ⟨rfl, by rw [HRN.out]; exact CourtPost.bad (join_below HB1.out HU9.out)⟩
end Go.Proofs.YthdfmbmbjpmlaaaGreatDoor.Rn
end
section
set_option linter.unusedVariables false
set_option linter.unusedSimpArgs false
namespace Go.Proofs.YthdfmbmbjpmlaaaGreatDoor.Rn
open Go Go.RowKit Go.Proofs.YthdfmbmbjpmlaaaGreatDoorW.PrintWords Go.Proofs.YthdfmbmbjpmlaaaGreatDoorW.PrintLast Go.Proofs.YthdfmbmbjpmlaaaGreatDoorW.PrintMore
def orP (a b : Option (Int × Int)) : Option (Int × Int) := match a with | none => b | some c => some c
def toksS (M E : Tok → Bool) (T : List Tok) : Nat → List Tok → Option (Int × Int)
 | _, [] => none
 | i, t :: l => orP ((tokS M E T t i).map (fun c => (c, (i : Int)))) (toksS M E T (i + 1) l)
def rulesS (T : List Tok) : Nat → List Rul → Option (Int × Int)
 | _, [] => none
 | i, r :: l => orP ((ruleS T r).map (fun c => (c, (T.length : Int) + i))) (rulesS T (i + 1) l)
def lateS (T : List Tok) (R : List Rul) : Option (Int × Int) := if (R.length : Int) ≤ 8 then rulesS T 0 R else some (6, T.length)
def checkS (M E : Tok → Bool) (T : List Tok) (R : List Rul) : Option (Int × Int) :=
 if (1 : Int) ≤ T.length ∧ (T.length : Int) ≤ 16 then orP (toksS M E T 0 T) (lateS T R) else some (6, 0)
def ChkPost (res : Option (Int × Int)) (W : World) (e : Ending) (W' : World) : Prop :=
 Below W.heap.size W W' ∧ e = match res with | none => .returned (.tuple #[]) | some p => .panicked [{ v := faultV p.1 p.2, recovered := false }]
theorem ChkPost.ok {W W' : World} (h : Below W.heap.size W W') : ChkPost none W (.returned (.tuple #[])) W' := ⟨h, rfl⟩
theorem ChkPost.bad {W W' : World} {c n : Int} (h : Below W.heap.size W W') : ChkPost (some (c, n)) W (.panicked [{ v := faultV c n, recovered := false }]) W' := ⟨h, rfl⟩
theorem grown_set (w : World) (a : Addr) (u : Value) : w.grownBy (w.setCell a u) (some a.block) :=
 ⟨rfl, rfl, rfl, (KeepsWalks.setCell w _ u).size, fun k _ hk => Below.heap_setCell _ _ _ k (fun e => hk (by rw [e]))⟩
theorem court_put {W w' : World} {AT : Option Addr} {T : List Tok} {ct : Nat} {AR : Option Addr} {R : List Rul} {cr : Nat} {wh : Int} (hB : Below W.heap.size W w') (h : CourtAt W.heap.size AT T ct AR R cr wh w') (n : Int) :
 Below W.heap.size W (w'.setCell ⟨W.heap.size, 2, none⟩ (.int .i64 n)) ∧ CourtAt W.heap.size AT T ct AR R cr n (w'.setCell ⟨W.heap.size, 2, none⟩ (.int .i64 n)) :=
 ⟨Below.grown hB (grown_set _ _ _) hB.size (fun k hk => by obtain rfl := Option.some.inj hk; exact Nat.le_refl _), blk_put h 2 _ rfl⟩
theorem court_where {bc : Nat} {w' : World} {AT : Option Addr} {T : List Tok} {ct : Nat} {AR : Option Addr} {R : List Rul} {cr : Nat} {wh : Int} (h : CourtAt bc AT T ct AR R cr wh w') :
 w'.cell? ⟨bc, 2, none⟩ = some (.int .i64 wh) ∧ w'.frozen? ⟨bc, 2, none⟩ = false := ⟨(blk_cell h 2).trans rfl, blk_frozen h 2⟩
set_option maxHeartbeats 4000000 in
set_option maxRecDepth 100000 in
theorem check_work (M E : Tok → Bool) (T : List Tok) (R : List Rul) (hM : ∀ t, t ∈ T → TokOk M E t) (bg : Nat) (AT : Option Addr) (ct : Nat) (AR : Option Addr) (cr : Nat) (W : World) (hg : W.heap[bg]? = some (.cells #[.slice AT T.length ct, .slice AR R.length cr] 25 (0, 0))) (hT : kTok.C W AT T.length T) (hR : kRul.C W AR R.length R) (hO : OwnAt W) :
 Calls Tryz.prog 21 #[.pointer (some ⟨bg, 0, none⟩)] W (ChkPost (checkS M E T R) W) := by
 have hlT : T.length ≤ 9223372036854775807 := hT.2.1
 have hlR : R.length ≤ 9223372036854775807 := hR.2.1
 obtain ⟨w1, hw1⟩ : ∃ w1, W.alloc (.cells #[.slice AT T.length ct, .slice AR R.length cr, .int .i64 0] 59) = w1 := ⟨_, rfl⟩
 have hnew : CourtAt W.heap.size AT T ct AR R cr 0 w1 := by rw [← hw1]; exact blk_new _ _
 have HB1 : Aside0 (Below W.heap.size W w1) := ⟨hw1 ▸ below1 W _⟩
 have g0 : W.cell? ⟨bg, 0, none⟩ = some (.slice AT T.length ct) := (blk_cell hg 0).trans rfl
 have g1 : W.cell? ⟨bg, 1, none⟩ = some (.slice AR R.length cr) := (blk_cell hg 1).trans rfl
 have HG : Aside0 (∀ W', Below W.heap.size W W' → W'.cell? ⟨bg, 0, none⟩ = some (.slice AT T.length ct) ∧ W'.cell? ⟨bg, 1, none⟩ = some (.slice AR R.length cr)) := ⟨fun W' hb => ⟨cell_after hb g0, cell_after hb g1⟩⟩
 have y0 := (HG.out _ HB1.out).1
 have hbl : bg < W.heap.size := blk_lt hg
 have hbne : bg ≠ W.heap.size := by omega
 have HC := Aside0.mk hnew
 have HT := Aside0.mk hT
 have HRR := Aside0.mk hR
 have HO := Aside0.mk hO
 have HM := Aside0.mk hM
 obtain ⟨res, hres⟩ : ∃ res, checkS M E T R = res := ⟨_, rfl⟩
 rw [hres]
 unfold checkS at hres
 have HR0 := Aside0.mk hres
 clear hres hnew hT hR hO hM hg hbl
 by_cases c1 : (1 : Int) ≤ T.length
 · by_cases c2 : (T.length : Int) ≤ 16
   · have HR1 : Aside0 (orP (toksS M E T 0 (T.drop 0)) (lateS T R) = res) := ⟨by rw [← HR0.out, if_pos ⟨c1, c2⟩]; rfl⟩
     clear HR0
     go_enter Tryz.func21, Tryz.ntmps21
     go_wp2_with fail
     refine (must_yes 6 HC.out).mono ?_
     rintro e w2 ⟨rfl, hb⟩
     have HB2 := Aside0.mk (join_below HB1.out hb)
     have HC2 := Aside0.mk (CourtAt.later HC.out hb)
     clear hb HC y0 g0 g1 hw1
     have y0 := (HG.out _ HB2.out).1
     go_wp2
     go_loopw [23] (fun i w' => ∃ k : Nat, i = .int .i64 k ∧ k ≤ T.length ∧ Aside0 (orP (toksS M E T k (T.drop k)) (lateS T R) = res) ∧ Aside0 (Below W.heap.size W w' ∧ ∃ wh, CourtAt W.heap.size AT T ct AR R cr wh w')) (fun i _ => T.length - (intOf i).toNat)
     case atStart => exact ⟨0, rfl, Nat.zero_le _, HR1, ⟨HB2.out, _, HC2.out⟩⟩
     case round =>
      obtain ⟨k, rfl, hkl, HI, HW⟩ := hrel
      obtain ⟨⟨hb, wh, hct⟩⟩ := HW
      clear y0 HC2 HB2 HR1
      by_cases hlt : k < T.length
      · obtain ⟨t, ht⟩ : ∃ t, T[k]? = some t := ⟨_, List.getElem?_eq_getElem hlt⟩
        have hdk : T.drop k = t :: T.drop (k + 1) := by
         rw [List.drop_eq_getElem_cons hlt]
         rw [List.getElem?_eq_getElem hlt] at ht
         rw [Option.some.inj ht]
        have hI := HI.out
        rw [hdk, toksS] at hI
        have HI2 := Aside0.mk hI
        have yw := court_where hct
        obtain ⟨yw1, yw2⟩ := yw
        have HP := Aside0.mk (court_put hb hct k)
        have HTT := Aside0.mk (And.intro ht (HM.out t (List.mem_of_getElem? ht)))
        clear hb hct hI HI hdk ht
        go_wp2_with fail
        refine (token_any M E T k t HTT.out.1 HTT.out.2 W.heap.size AT ct AR R cr k _ HP.out.2 (Kd.C_below HT.out HP.out.1) (Kd.C_below HO.out HP.out.1)).mono ?_
        rintro e w3 ⟨hb3, he⟩
        have HB3 := Aside0.mk (join_below HP.out.1 hb3)
        have HC3 := Aside0.mk (CourtAt.later HP.out.2 hb3)
        clear hb3
        have hI := HI2.out
        clear HI2 yw1 yw2
        generalize tokS M E T t k = r1 at he hI
        cases r1 with
        | some c =>
         have he' : e = .panicked [{ v := faultV c k, recovered := false }] := he
         subst he'
         have HRN : Aside0 (res = some (c, (k : Int))) := ⟨hI.symm⟩
         clear he hI
         go_wp2
         exact ⟨rfl, by rw [HRN.out]; exact ChkPost.bad HB3.out⟩
        | none =>
         have he' : e = .returned (.tuple #[]) := he
         subst he'
         have HI3 : Aside0 (orP (toksS M E T (k + 1) (T.drop (k + 1))) (lateS T R) = res) := ⟨hI⟩
         clear he hI
         go_wp2
         go_roundw
         case rel => exact ⟨k + 1, by go_num, by omega, HI3, ⟨HB3.out, _, HC3.out⟩⟩
         case measure => simp [intOf]; omega
      · have e : k = T.length := by omega
        have hI := HI.out
        rw [e, List.drop_length, toksS] at hI
        have HI2 : Aside0 (lateS T R = res) := ⟨hI⟩
        have yw := court_where hct
        obtain ⟨yw1, yw2⟩ := yw
        have HP := Aside0.mk (court_put hb hct T.length)
        have y0 := (HG.out _ hb).1
        have gg := HG.out _ HP.out.1
        obtain ⟨gg0, gg1⟩ := gg
        clear hb hct hI HI e hkl
        by_cases c3 : (R.length : Int) ≤ 8
        · have HI3 : Aside0 (rulesS T 0 (R.drop 0) = res) := ⟨by rw [← HI2.out, lateS, if_pos c3]; rfl⟩
          clear HI2
          go_wp2_with fail
          refine (must_yes 6 HP.out.2).mono ?_
          rintro e w3 ⟨rfl, hb3⟩
          have HB3 := Aside0.mk (join_below HP.out.1 hb3)
          have HC3 := Aside0.mk (CourtAt.later HP.out.2 hb3)
          clear hb3 yw1 yw2 y0 gg0 gg1
          have gg := HG.out _ HB3.out
          obtain ⟨gg0, gg1⟩ := gg
          go_wp2
          go_loopw [49] (fun i w' => ∃ k : Nat, i = .int .i64 k ∧ k ≤ R.length ∧ Aside0 (rulesS T k (R.drop k) = res) ∧ Aside0 (Below W.heap.size W w' ∧ ∃ wh, CourtAt W.heap.size AT T ct AR R cr wh w')) (fun i _ => R.length - (intOf i).toNat)
          case atStart => exact ⟨0, rfl, Nat.zero_le _, HI3, ⟨HB3.out, _, HC3.out⟩⟩
          case round =>
           clear gg0 gg1 HI3 HB3 HC3
           obtain ⟨k2, rfl, hkl2, HI, HW⟩ := hrel
           obtain ⟨⟨hb, wh2, hct⟩⟩ := HW
           by_cases hlt2 : k2 < R.length
           · obtain ⟨g, o, rfl, hgl, hcell⟩ := row_cells HRR.out (by omega) (by decide)
             obtain ⟨r, hr⟩ : ∃ r, R[k2]? = some r := ⟨_, List.getElem?_eq_getElem hlt2⟩
             obtain ⟨cs, _, hKr, hcc⟩ := hcell k2 r hr
             have HKr := Aside0.mk hKr
             obtain ⟨D2, d2, rfl, _, _⟩ := k43_open hKr
             have v0 := cell_after hb (hcc 0 (.int .i64 r.f0) rfl)
             have v1 := cell_after hb (hcc 1 (.bool r.f1) rfl)
             have v2 := cell_after hb (hcc 2 (.slice D2 r.f2.length d2) rfl)
             rw [Nat.add_zero] at v0
             simp only [show kRul.sz = 3 from rfl] at v0 v1 v2
             have hdk : R.drop k2 = r :: R.drop (k2 + 1) := by
              rw [List.drop_eq_getElem_cons hlt2]
              rw [List.getElem?_eq_getElem hlt2] at hr
              rw [Option.some.inj hr]
             have hI := HI.out
             rw [hdk, rulesS] at hI
             have HI2 := Aside0.mk hI
             obtain ⟨wa, hwa⟩ : ∃ wa, wr.alloc (.cells #[.int .i64 r.f0, .bool r.f1, .slice D2 r.f2.length d2] 43) = wa := ⟨_, rfl⟩
             have hnw : wa.heap[wr.heap.size]? = some (.cells #[.int .i64 r.f0, .bool r.f1, .slice D2 r.f2.length d2] 43 (0, 0)) := by rw [← hwa]; exact blk_new _ _
             have hba : Below W.heap.size W wa := hwa ▸ below_alloc hb _
             have hcta : CourtAt W.heap.size AT T ct (some ⟨g, o, none⟩) R cr wh2 wa := by rw [← hwa]; exact blk_alloc hct _
             have hne : wr.heap.size ≠ W.heap.size := Nat.ne_of_gt (blk_lt hct)
             have y0 := (HG.out _ hba).1
             have yw := court_where hcta
             obtain ⟨yw1, yw2⟩ := yw
             obtain ⟨ws, hws⟩ : ∃ ws, wa.setCell ⟨W.heap.size, 2, none⟩ (.int .i64 ((T.length : Int) + k2)) = ws := ⟨_, rfl⟩
             have hP := court_put hba hcta ((T.length : Int) + k2)
             have hnws : ws.heap[wr.heap.size]? = some (.cells #[.int .i64 r.f0, .bool r.f1, .slice D2 r.f2.length d2] 43 (0, 0)) := by rw [← hws]; exact blk_far hnw hne _
             rw [hws] at hP
             have HP := Aside0.mk hP
             have x0 : ws.cell? ⟨wr.heap.size, 0, none⟩ = some (.int .i64 r.f0) := (blk_cell hnws 0).trans rfl
             have x1 : ws.cell? ⟨wr.heap.size, 1, none⟩ = some (.bool r.f1) := (blk_cell hnws 1).trans rfl
             have x2 : ws.cell? ⟨wr.heap.size, 2, none⟩ = some (.slice D2 r.f2.length d2) := (blk_cell hnws 2).trans rfl
             clear hP hnws hnw hba hcta hct hb hI HI hr hdk hcell hcc hKr hne
             go_wp2_with fail
             refine (rule_any T r W.heap.size AT ct _ R cr ((T.length : Int) + k2) W _ _ HP.out.1 HP.out.2 (Kd.C_below HT.out HP.out.1) HKr.out).mono ?_
             rintro e w4 ⟨hb4, he⟩
             have HB4 := Aside0.mk (join_below HP.out.1 hb4)
             have HC4 := Aside0.mk (CourtAt.later HP.out.2 hb4)
             clear hb4 x0 x1 x2 yw1 yw2 y0 v0 v1 v2
             have hI := HI2.out
             clear HI2 hwa hws
             generalize ruleS T r = r1 at he hI
             cases r1 with
             | some c =>
              have he' : e = .panicked [{ v := faultV c ((T.length : Int) + k2), recovered := false }] := he
              subst he'
              have HRN : Aside0 (res = some (c, (T.length : Int) + k2)) := ⟨hI.symm⟩
              clear he hI
              go_wp2
              exact ⟨rfl, by rw [HRN.out]; exact ChkPost.bad HB4.out⟩
             | none =>
              have he' : e = .returned (.tuple #[]) := he
              subst he'
              have HI3 : Aside0 (rulesS T (k2 + 1) (R.drop (k2 + 1)) = res) := ⟨hI⟩
              clear he hI
              go_wp2
              go_roundw
              case rel => exact ⟨k2 + 1, by go_num, by omega, HI3, ⟨HB4.out, _, HC4.out⟩⟩
              case measure => simp [intOf]; omega
           · have e : k2 = R.length := by omega
             have HQ : Aside0 (res = none) := ⟨by rw [← HI.out, e, List.drop_length]; rfl⟩
             have HBB := Aside0.mk hb
             clear e hb
             go_wp2
             first | go_end0 | refine bodyPost_ret (results_none rfl _ _ _) rfl ?_
             rw [HQ.out]
             exact ChkPost.ok HBB.out
        · have d3 : decide ((R.length : Int) ≤ 8) = false := decide_eq_false c3
          have HRN : Aside0 (res = some (6, (T.length : Int))) := ⟨by rw [← HI2.out, lateS, if_neg c3]⟩
          clear HI2 c3
          go_wp2_with fail
          refine (must_no 6 HP.out.2).mono ?_
          rintro e w3 ⟨rfl, hb3⟩
          have HB3 := Aside0.mk (join_below HP.out.1 hb3)
          clear hb3 yw1 yw2 y0 gg0 gg1
          go_wp2
          exact ⟨rfl, by rw [HRN.out]; exact ChkPost.bad HB3.out⟩
   · have d2 : decide ((T.length : Int) ≤ 16) = false := decide_eq_false c2
     have HRN : Aside0 (res = some (6, 0)) := ⟨by rw [← HR0.out, if_neg (fun h => c2 h.2)]⟩
     clear HR0 c2
     go_enter Tryz.func21, Tryz.ntmps21
     go_wp2_with fail
     refine (must_no 6 HC.out).mono ?_
     rintro e w2 ⟨rfl, hb⟩
     have HB2 := Aside0.mk (join_below HB1.out hb)
     clear hb y0
     go_wp2
     exact ⟨rfl, by rw [HRN.out]; exact ChkPost.bad HB2.out⟩
 · have d1 : decide ((1 : Int) ≤ T.length) = false := decide_eq_false c1
   have HRN : Aside0 (res = some (6, 0)) := ⟨by rw [← HR0.out, if_neg (fun h => c1 h.1)]⟩
   clear HR0 c1
   go_enter Tryz.func21, Tryz.ntmps21
   go_wp2_with fail
   refine (must_no 6 HC.out).mono ?_
   rintro e w2 ⟨rfl, hb⟩
   have HB2 := Aside0.mk (join_below HB1.out hb)
   clear hb y0
   go_wp2
   exact ⟨rfl, by rw [HRN.out]; exact ChkPost.bad HB2.out⟩
end Go.Proofs.YthdfmbmbjpmlaaaGreatDoor.Rn
end
section
set_option linter.unusedVariables false
set_option linter.unusedSimpArgs false
namespace Go.Proofs.YthdfmbmbjpmlaaaGreatDoor.Rn
open Go Go.RowKit Go.Proofs.YthdfmbmbjpmlaaaGreatDoorW.PrintWords Go.Proofs.YthdfmbmbjpmlaaaGreatDoorW.PrintLast Go.Proofs.YthdfmbmbjpmlaaaGreatDoorW.PrintMore
theorem assert_fault (v : Value) (s : TypeId) (w : World) : (Instr.typeAssert (.iface 55 v) s 55 true).run Tryz.prog w = .ok (.tuple #[v, .bool true]) w := by
 simp [Instr.typeAssert, run_underlying Tryz.underlying55]
theorem makeFunc_run (fn : Fn) (first cap : Array Value) (w : World) : (Instr.makeFunc fn first cap).run Tryz.prog w = .ok (.func fn first cap) w := rfl
def caughtW (w : World) (b : Nat) (c n : Int) : World := ((w.setCell ⟨b, 0, none⟩ (.int .i64 c)).setCell ⟨b, 1, none⟩ (.int .i64 n)).alloc (.cells #[.int .i64 c, .int .i64 n] 55)
set_option maxHeartbeats 400000 in
theorem catch_panicking (b : Nat) (x y c n : Int) (older : List PanicEntry) (w : World) (hb : w.heap[b]? = some (.cells #[.int .i64 x, .int .i64 y] 55 (0, 0))) :
 CallsD Tryz.prog 47 #[.pointer (some ⟨b, 0, none⟩)] (.panicking ({ v := faultV c n, recovered := false } :: older)) w fun e u' w' =>
  e = .returned (.tuple #[]) ∧ u' = .panicking ({ v := faultV c n, recovered := true } :: older) ∧ w' = caughtW w b c n := by
 have hta := assert_fault
 have hlt := blk_lt hb
 have hne : w.heap.size ≠ b := by omega
 have hc : ∀ o, (w.alloc o).cell? ⟨b, 0, none⟩ = some (.int .i64 x) := fun o => (blk_cell (blk_alloc hb o) 0).trans rfl
 have hc1 : ∀ o, (w.alloc o).cell? ⟨b, 1, none⟩ = some (.int .i64 y) := fun o => (blk_cell (blk_alloc hb o) 1).trans rfl
 have hz : ∀ o, (w.alloc o).frozen? ⟨b, 0, none⟩ = false := fun o => blk_frozen (blk_alloc hb o) 0
 have hz1 : ∀ o, (w.alloc o).frozen? ⟨b, 1, none⟩ = false := fun o => blk_frozen (blk_alloc hb o) 1
 have hb2 := blk_put hb 0 (.int .i64 c) rfl
 have hc2 : ∀ o, ((w.setCell ⟨b, 0, none⟩ (.int .i64 c)).alloc o).cell? ⟨b, 1, none⟩ = some (.int .i64 y) := fun o => (blk_cell (blk_alloc hb2 o) 1).trans rfl
 have hz2 : ∀ o, ((w.setCell ⟨b, 0, none⟩ (.int .i64 c)).alloc o).frozen? ⟨b, 1, none⟩ = false := fun o => blk_frozen (blk_alloc hb2 o) 1
 clear hb hb2
 refine callsD_of_wpS Tryz.func47 rfl fun c₀ cs hu => ?_
 apply wpS_seq
 apply wpS_region
 simp [wpOpsS, go_sem, recoverD, hu, Tryz.ntmps47, Exit.thenS, faultV]
 change Code.wpS _ _ _ ⟨#[.pointer (some ⟨b, 0, none⟩), .iface 55 (.agg #[.int .i64 c, .int .i64 n]), undef, undef, .iface 55 (.agg #[.int .i64 c, .int .i64 n]), undef, undef, undef, undef, undef, undef, undef, undef, undef, undef, undef], []⟩ _ _
 refine wpS_of_wp ?_
 go_wp2
 simp [bodyPostS, results, Tryz.results47, caughtW]
theorem catch_idle (p : Addr) (w : World) :
 CallsD Tryz.prog 47 #[.pointer (some p)] .returning w fun e u' w' => e = .returned (.tuple #[]) ∧ u' = .returning ∧ w' = w := by
 refine callsD_of_wpS Tryz.func47 rfl fun c₀ cs hu => ?_
 apply wpS_seq
 apply wpS_region
 simp [wpOpsS, go_sem, recoverD, hu, Tryz.ntmps47, Exit.thenS]
 change Code.wpS _ _ _ ⟨#[.pointer (some p), .nilIface, undef, undef, .nilIface, undef, undef, undef, undef, undef, undef, undef, undef, undef, undef, undef], []⟩ _ _
 refine wpS_of_wp ?_
 go_wp2
 cases c₀
 simp_all [bodyPostS, results, Tryz.results47]
def codeOf (res : Option (Int × Int)) : Int × Int := match res with | none => (0, 0) | some p => p
set_option maxHeartbeats 1000000 in
set_option maxRecDepth 100000 in
theorem caught_any (M E : Tok → Bool) (T : List Tok) (R : List Rul) (hM : ∀ t, t ∈ T → TokOk M E t) (bg : Nat) (AT : Option Addr) (ct : Nat) (AR : Option Addr) (cr : Nat) (W : World) (hg : W.heap[bg]? = some (.cells #[.slice AT T.length ct, .slice AR R.length cr] 25 (0, 0))) (hT : kTok.C W AT T.length T) (hR : kRul.C W AR R.length R) (hO : OwnAt W) :
 Calls Tryz.prog 20 #[.func (.func 21) #[] #[.pointer (some ⟨bg, 0, none⟩)]] W fun e W' => e = .returned (.agg #[.int .i64 (codeOf (checkS M E T R)).1, .int .i64 (codeOf (checkS M E T R)).2]) ∧ Below W.heap.size W W' := by
 have hmf := makeFunc_run
 have hgo := fun o => check_work M E T R hM bg AT ct AR cr (W.alloc o) (blk_alloc hg o) (Kd.C_below hT (below1 W o)) (Kd.C_below hR (below1 W o)) (Kd.C_below hO (below1 W o))
 have HGO := Aside0.mk hgo
 clear hgo hM hg hT hR hO
 generalize checkS M E T R = res at HGO
 cases res with
 | some p =>
  obtain ⟨c, n⟩ := p
  go_enter_defers Tryz.func20, Tryz.ntmps20
  go_wp2_with fail
  refine (HGO.out _).mono ?_
  rintro e w2 ⟨hb, he⟩
  have he' : e = .panicked [{ v := faultV c n, recovered := false }] := he
  subst he'
  have hbx : w2.heap[W.heap.size]? = some (.cells #[.int .i64 0, .int .i64 0] 55 (0, 0)) := (hb.block _ (by simp)).trans (blk_new W _)
  have HB := Aside0.mk (join_below (below1 W _) hb)
  clear he hb
  go_wp2
  refine leaves_cons (f := 47) (args := #[.pointer (some ⟨W.heap.size, 0, none⟩)]) (by simp) (by simp [go_sem]) ?_
  refine (catch_panicking W.heap.size 0 0 c n [] _ hbx).mono ?_
  rintro e u' w'' ⟨rfl, rfl, rfl⟩
  have hput := blk_alloc (blk_put (blk_put hbx 0 (.int .i64 c) rfl) 1 (.int .i64 n) rfl) (.cells #[.int .i64 c, .int .i64 n] 55)
  have hc0 : (caughtW w2 W.heap.size c n).cell? ⟨W.heap.size, 0, none⟩ = some (.int .i64 c) := (blk_cell hput 0).trans rfl
  have hc1 : (caughtW w2 W.heap.size c n).cell? ⟨W.heap.size, 1, none⟩ = some (.int .i64 n) := (blk_cell hput 1).trans rfl
  have hfin : Below W.heap.size W (caughtW w2 W.heap.size c n) := below_alloc ((HB.out.setCell (Nat.le_refl _) _).setCell (Nat.le_refl _) _) _
  simp [Leaves, settle, results, Tryz.results20, go_sem, hc0, hc1, hfin, codeOf]
 | none =>
  go_enter_defers Tryz.func20, Tryz.ntmps20
  go_wp2_with fail
  refine (HGO.out _).mono ?_
  rintro e w2 ⟨hb, he⟩
  have he' : e = .returned (.tuple #[]) := he
  subst he'
  have hbx : w2.heap[W.heap.size]? = some (.cells #[.int .i64 0, .int .i64 0] 55 (0, 0)) := (hb.block _ (by simp)).trans (blk_new W _)
  have HB := Aside0.mk (join_below (below1 W _) hb)
  clear he hb
  have ce0 : w2.cell? ⟨W.heap.size, 0, none⟩ = some (.int .i64 0) := (blk_cell hbx 0).trans rfl
  have ce1 : w2.cell? ⟨W.heap.size, 1, none⟩ = some (.int .i64 0) := (blk_cell hbx 1).trans rfl
  have fr0 := blk_frozen hbx 0
  have fr1 := blk_frozen hbx 1
  have hb2 := blk_put hbx 0 (.int .i64 0) rfl
  have ce2 : (w2.setCell ⟨W.heap.size, 0, none⟩ (.int .i64 0)).cell? ⟨W.heap.size, 1, none⟩ = some (.int .i64 0) := (blk_cell hb2 1).trans rfl
  have fr2 := blk_frozen hb2 1
  have hb3 := blk_put hb2 1 (.int .i64 0) rfl
  have HB3 := Aside0.mk hb3
  clear hb2 hb3
  go_wp2
  refine leaves_cons (f := 47) (args := #[.pointer (some ⟨W.heap.size, 0, none⟩)]) (by simp) (by simp [go_sem]) ?_
  refine (catch_idle ⟨W.heap.size, 0, none⟩ _).mono ?_
  rintro e u' w'' ⟨rfl, rfl, rfl⟩
  have hc0 : ((w2.setCell ⟨W.heap.size, 0, none⟩ (.int .i64 0)).setCell ⟨W.heap.size, 1, none⟩ (.int .i64 0)).cell? ⟨W.heap.size, 0, none⟩ = some (.int .i64 0) := (blk_cell HB3.out 0).trans rfl
  have hc1 : ((w2.setCell ⟨W.heap.size, 0, none⟩ (.int .i64 0)).setCell ⟨W.heap.size, 1, none⟩ (.int .i64 0)).cell? ⟨W.heap.size, 1, none⟩ = some (.int .i64 0) := (blk_cell HB3.out 1).trans rfl
  have hfin : Below W.heap.size W ((w2.setCell ⟨W.heap.size, 0, none⟩ (.int .i64 0)).setCell ⟨W.heap.size, 1, none⟩ (.int .i64 0)) := (HB.out.setCell (Nat.le_refl _) _).setCell (Nat.le_refl _) _
  simp [Leaves, settle, results, Tryz.results20, go_sem, hc0, hc1, hfin, codeOf]
set_option maxHeartbeats 1000000 in
set_option maxRecDepth 100000 in
theorem check_any (M E : Tok → Bool) (T : List Tok) (R : List Rul) (hM : ∀ t, t ∈ T → TokOk M E t) (AT : Option Addr) (ct : Nat) (AR : Option Addr) (cr : Nat) (W : World) (hT : kTok.C W AT T.length T) (hR : kRul.C W AR R.length R) (hO : OwnAt W) :
 Calls Tryz.prog 6 #[.agg #[.slice AT T.length ct, .slice AR R.length cr]] W fun e W' => e = .returned (.tuple #[.int .i64 (codeOf (checkS M E T R)).1, .int .i64 (codeOf (checkS M E T R)).2]) ∧ Below W.heap.size W W' := by
 have hmf := makeFunc_run
 have hgo := caught_any M E T R hM W.heap.size AT ct AR cr (W.alloc (.cells #[.slice AT T.length ct, .slice AR R.length cr] 25)) (blk_new W _) (Kd.C_below hT (below1 W _)) (Kd.C_below hR (below1 W _)) (Kd.C_below hO (below1 W _))
 generalize codeOf (checkS M E T R) = p at hgo
 obtain ⟨c, n⟩ := p
 have HGO := Aside0.mk hgo
 clear hgo hM hT hR hO
 go_enter Tryz.func6, Tryz.ntmps6
 go_wp2_with fail
 refine HGO.out.mono ?_
 rintro e w2 ⟨rfl, hb⟩
 have HB := Aside0.mk (join_below (below1 W _) hb)
 clear hb
 go_wp2
 go_quiet (fail)
 go_wp2
 refine bodyPost_ret (results_tmp2 rfl _ _ _) rfl ?_
 exact ⟨rfl, pw_below_drewN (below_alloc HB.out _) nq⟩
end Go.Proofs.YthdfmbmbjpmlaaaGreatDoor.Rn
end
section
set_option linter.unusedVariables false
set_option linter.unusedSimpArgs false
namespace Go.Proofs.YthdfmbmbjpmlaaaGreatDoor.Rn
open Go Go.RowKit Go.Proofs.YthdfmbmbjpmlaaaGreatDoorW.PrintWords Go.Proofs.YthdfmbmbjpmlaaaGreatDoorW.PrintLast Go.Proofs.YthdfmbmbjpmlaaaGreatDoorW.PrintMore
structure RefOk (M E : Tok → Bool) (t : Tok) : Prop where
 s : t.f0.size ≤ 9223372036854775807
 m : ∀ (w0 W : World) (cs : List Value), Below w0.heap.size w0 W → k38.K w0 t.f3 cs → Calls Tryz.prog 25 #[.agg cs.toArray] W fun e W' => e = .returned (.bool (M t)) ∧ Below W.heap.size W W'
 e : M t = true → ∀ (w0 W : World) (cs : List Value), Below w0.heap.size w0 W → k38.K w0 t.f3 cs → Calls Tryz.prog 26 #[.agg cs.toArray] W fun e W' => e = .returned (.bool (E t)) ∧ Below W.heap.size W W'
theorem toksS_at (M E : Tok → Bool) (T : List Tok) {l : List Tok} {m : Nat} {t : Tok} (h : l[m]? = some t) : toksS M E T m (l.drop m) = orP ((tokS M E T t m).map (fun c => (c, (m : Int)))) (toksS M E T (m + 1) (l.drop (m + 1))) := by
 have hlt := (List.getElem?_eq_some_iff.1 h).1
 obtain rfl : l[m] = t := (List.getElem?_eq_some_iff.1 h).2
 rw [List.drop_eq_getElem_cons hlt, toksS]
theorem rulesS_at (T : List Tok) {l : List Rul} {m : Nat} {r : Rul} (h : l[m]? = some r) : rulesS T m (l.drop m) = orP ((ruleS T r).map (fun c => (c, (T.length : Int) + m))) (rulesS T (m + 1) (l.drop (m + 1))) := by
 have hlt := (List.getElem?_eq_some_iff.1 h).1
 obtain rfl : l[m] = r := (List.getElem?_eq_some_iff.1 h).2
 rw [List.drop_eq_getElem_cons hlt, rulesS]
theorem stepsS_ne (T : List Tok) (free : Bool) : ∀ (l : List Stp) (i : Nat) (c : Int), stepsS T free i l = some c → c ≠ 0
 | [], i, c, h => by simp [stepsS] at h
 | s :: l, i, c, h => by
  rw [stepsS] at h
  split at h
  · rcases orS_some h with h | ⟨_, h⟩
    · exact namesS_ne T _ _ _ c h
    · rcases orS_some h with h | ⟨_, h⟩
      · exact patS_ne T _ c h
      · exact stepsS_ne T free l (i + 1) c h
  · injection h with h; omega
theorem ruleS_ne (T : List Tok) (x : Rul) (c : Int) (h : ruleS T x = some c) : c ≠ 0 := by
 unfold ruleS classS at h
 rcases orS_some h with h | ⟨_, h⟩
 · split at h
   · cases h
   · injection h with h; omega
 · split at h
   · exact stepsS_ne T _ _ _ c h
   · injection h with h; omega
set_option maxHeartbeats 40000000 in
set_option maxRecDepth 100000 in
theorem rcheck_any (M E : Tok → Bool) (T : List Tok) (R : List Rul) (hM : ∀ t, t ∈ T → RefOk M E t) (hsz : ∀ r, r ∈ R → ∀ s, s ∈ r.f2 → sizeP s.f1 ≤ 1000) (AT : Option Addr) (ct : Nat) (AR : Option Addr) (cr : Nat) (W : World) (hT : kTok.C W AT T.length T) (hR : kRul.C W AR R.length R) :
 Calls Tryz.prog 7 #[.agg #[.slice AT T.length ct, .slice AR R.length cr]] W fun e W' => e = .returned (.tuple #[.int .i64 (codeOf (checkS M E T R)).1, .int .i64 (codeOf (checkS M E T R)).2]) ∧ Below W.heap.size W W' := by
 have HM := Aside0.mk hM
 have HSZ := Aside0.mk hsz
 have HT := Aside0.mk hT
 have HR := Aside0.mk hR
 have hlT : T.length ≤ 9223372036854775807 := hT.2.1
 have hlR : R.length ≤ 9223372036854775807 := hR.2.1
 obtain ⟨res, hres⟩ : ∃ r, checkS M E T R = r := ⟨_, rfl⟩
 have HS : Aside0 ((if (1 : Int) ≤ T.length ∧ (T.length : Int) ≤ 16 then orP (toksS M E T 0 T) (lateS T R) else some (6, 0)) = res) := ⟨hres⟩
 rw [hres]
 clear hM hsz hT hR hres
 go_enter Tryz.func7, Tryz.ntmps7
 go_upto_region 1 with (fail)
 obtain ⟨w1, hw1⟩ : ∃ z, W.alloc (.cells #[.slice AT T.length ct, .slice AR R.length cr] 25) = z := ⟨_, rfl⟩
 obtain ⟨bg, hbg⟩ : ∃ z, W.heap.size = z := ⟨_, rfl⟩
 have HB0 : Aside0 (Below W.heap.size W w1) := ⟨hw1 ▸ below1 _ _⟩
 have HKG : Aside0 (w1.heap[bg]? = some (.cells #[.slice AT T.length ct, .slice AR R.length cr] 25 (0, 0))) := ⟨by rw [← hw1, ← hbg]; exact blk_new _ _⟩
 rw [hw1, hbg]
 clear hw1 hbg
 have y0 : w1.cell? ⟨bg, 0, none⟩ = some (.slice AT T.length ct) := (blk_cell HKG.out 0).trans rfl
 by_cases h1 : T.length < 1
 · have d1 : decide (T.length < 1) = true := decide_eq_true h1
   have d1z : decide ((T.length : Int) < 1) = true := decide_eq_true (by omega)
   have HRR : Aside0 (res = some (6, 0)) := ⟨by rw [← HS.out, if_neg (by omega)]⟩
   have hz : T.length = 0 := by omega
   clear h1 hz
   go_wp2
   refine bodyPost_ret (results_tmp2 rfl _ _ _) rfl ?_
   rw [HRR.out]
   exact ⟨rfl, HB0.out⟩
 have d1 : decide (T.length < 1) = false := decide_eq_false h1
 have d1z : decide ((T.length : Int) < 1) = false := decide_eq_false (by omega)
 by_cases h2 : 16 < T.length
 · have d2 : decide (16 < T.length) = true := decide_eq_true h2
   have d2z : decide (16 < (T.length : Int)) = true := decide_eq_true (by omega)
   have HRR : Aside0 (res = some (6, 0)) := ⟨by rw [← HS.out, if_neg (by omega)]⟩
   go_wp2
   refine bodyPost_ret (results_tmp2 rfl _ _ _) rfl ?_
   rw [HRR.out]
   exact ⟨rfl, HB0.out⟩
 have d2 : decide (16 < T.length) = false := decide_eq_false h2
 have d2z : decide (16 < (T.length : Int)) = false := decide_eq_false (by omega)
 have HS2 : Aside0 (orP (toksS M E T 0 (T.drop 0)) (lateS T R) = res) := ⟨by rw [← HS.out, if_pos (by omega)]; rfl⟩
 have hT16 : T.length ≤ 16 := by omega
 clear HS
 obtain ⟨rt, hrt⟩ : ∃ z, toksS M E T 0 (T.drop 0) = z := ⟨_, rfl⟩
 have HRT := Aside0.mk hrt
 rw [hrt] at HS2
 clear hrt
 go_upto_block 0 with (fail)
 clear d1 d1z d2 d2z y0 h1 h2
 go_cut [5] (fun v w' => Aside0 (Below w1.heap.size w1 w' ∧ rt = none))
 case first =>
  go_wp2_with fail
  go_loopw [5] (fun i w => ∃ m : Nat, i = .int .i64 (m : Int) ∧ m ≤ T.length ∧ Aside0 (Below w1.heap.size w1 w ∧ toksS M E T m (T.drop m) = rt)) (fun i _ => T.length - (intOf i).toNat)
  case atStart => exact ⟨0, rfl, Nat.zero_le _, ⟨⟨Below.refl _ _, HRT.out⟩⟩⟩
  case round =>
   obtain ⟨m, rfl, hm, HI⟩ := hrel
   obtain ⟨w4, hw4⟩ : ∃ z, wr = z := ⟨_, rfl⟩
   rw [hw4] at HI ⊢
   clear hw4
   have HB4 := Aside0.mk (join_below HB0.out HI.out.1)
   have y0 : w4.cell? ⟨bg, 0, none⟩ = some (.slice AT T.length ct) := (blk_cell (blk_below HKG.out HI.out.1) 0).trans rfl
   by_cases hlt : m < T.length
   · have e1 : decide (m < T.length) = true := decide_eq_true hlt
     have hil : (m : Int) < T.length := by omega
     obtain ⟨g, og, hA, _, hcell⟩ := row_cells HT.out (by omega) (by decide)
     subst hA
     obtain ⟨t, ht⟩ : ∃ t, T[m]? = some t := ⟨_, List.getElem?_eq_getElem hlt⟩
     obtain ⟨cs, _, hK, hcc⟩ := hcell m t ht
     obtain ⟨A4, c4, A5, c5, rfl, l4, g4, l5, g5⟩ := k40_open hK
     have HKR : Aside0 (k38.K W t.f3 [.int .i64 t.f3.f0, .slice A4 t.f3.f1.length c4, .slice A5 t.f3.f2.length c5]) := ⟨k38_mk W t.f3 l4 g4 l5 g5⟩
     have z0 := cell_after HB4.out (hcc 0 (.string t.f0) rfl)
     have z1 := cell_after HB4.out (hcc 1 (.int .i64 t.f1) rfl)
     have z2 := cell_after HB4.out (hcc 2 (.int .i64 t.f2) rfl)
     have z3 := cell_after HB4.out (hcc 3 (.int .i64 t.f3.f0) rfl)
     have z4 := cell_after HB4.out (hcc 4 (.slice A4 t.f3.f1.length c4) rfl)
     have z5 := cell_after HB4.out (hcc 5 (.slice A5 t.f3.f2.length c5) rfl)
     rw [Nat.add_zero] at z0
     simp only [show kTok.sz = 6 from rfl] at z0 z1 z2 z3 z4 z5
     have HOK := Aside0.mk (HM.out t (List.mem_of_getElem? ht))
     have HLT := Aside0.mk hlt
     have HAT := Aside0.mk ((toksS_at M E T ht).symm.trans HI.out.2)
     have hm16 : (m : Int) ≤ 16 := by omega
     clear hcell hcc hK ht hlt l4 g4 l5 g5
     go_upto_block 2 with (fail)
     obtain ⟨w5, hw5⟩ : ∃ z, w4.alloc (.cells #[.string t.f0, .int .i64 t.f1, .int .i64 t.f2, .int .i64 t.f3.f0, .slice A4 t.f3.f1.length c4, .slice A5 t.f3.f2.length c5] 40) = z := ⟨_, rfl⟩
     obtain ⟨bt, hbt⟩ : ∃ z, w4.heap.size = z := ⟨_, rfl⟩
     have HB45 : Aside0 (Below w4.heap.size w4 w5) := ⟨hw5 ▸ below1 _ _⟩
     have HKT : Aside0 (w5.heap[bt]? = some (.cells #[.string t.f0, .int .i64 t.f1, .int .i64 t.f2, .int .i64 t.f3.f0, .slice A4 t.f3.f1.length c4, .slice A5 t.f3.f2.length c5] 40 (0, 0))) := ⟨by rw [← hw5, ← hbt]; exact blk_new _ _⟩
     rw [hw5, hbt]
     clear hw5 hbt z0 z1 z2 z3 z4 z5 y0 e1
     have HB15 := Aside0.mk (join_below HI.out.1 HB45.out)
     have HX : Aside0 (∀ w, Below w5.heap.size w5 w → Below W.heap.size W w ∧ Below w1.heap.size w1 w ∧ w.heap[bt]? = some (.cells #[.string t.f0, .int .i64 t.f1, .int .i64 t.f2, .int .i64 t.f3.f0, .slice A4 t.f3.f1.length c4, .slice A5 t.f3.f2.length c5] 40 (0, 0)) ∧ w.heap[bg]? = some (.cells #[.slice (some ⟨g, og, none⟩) T.length ct, .slice AR R.length cr] 25 (0, 0))) := ⟨fun w h => ⟨join_below HB0.out (join_below HB15.out h), join_below HB15.out h, blk_below HKT.out h, blk_below HKG.out (join_below HB15.out h)⟩⟩
     have z0 : w5.cell? ⟨bt, 0, none⟩ = some (.string t.f0) := (blk_cell HKT.out 0).trans rfl
     clear HKT HB45
     obtain ⟨rx, hrx⟩ : ∃ z, tokS M E T t m = z := ⟨_, rfl⟩
     have HRX := Aside0.mk hrx
     rw [hrx] at HAT
     clear hrx
     go_wp2_with fail
     refine (rname_any t.f0 HOK.out.s w5).mono ?_
     rintro e w6 ⟨rfl, hb⟩
     have HB6 := Aside0.mk hb
     clear hb z0
     cases hnm : nameS t.f0
     case false =>
      have HRR : Aside0 (rx = some 4) := ⟨by rw [← HRX.out]; unfold tokS; rw [hnm, Bool.false_and]; rfl⟩
      have HR2 : Aside0 (res = some (4, (m : Int))) := ⟨by rw [← HS2.out, ← HAT.out, HRR.out]; rfl⟩
      clear hnm
      go_wp2
      refine bodyPost_ret (results_tmp2 rfl _ _ _) rfl ?_
      rw [HR2.out]
      exact ⟨rfl, (HX.out _ HB6.out).1⟩
     have hX6 := HX.out _ HB6.out
     have g0 : w6.cell? ⟨bg, 0, none⟩ = some (.slice (some ⟨g, og, none⟩) T.length ct) := (blk_cell hX6.2.2.2 0).trans rfl
     have g1 : w6.cell? ⟨bg, 1, none⟩ = some (.slice AR R.length cr) := (blk_cell hX6.2.2.2 1).trans rfl
     have z0 : w6.cell? ⟨bt, 0, none⟩ = some (.string t.f0) := (blk_cell hX6.2.2.1 0).trans rfl
     have HNM := Aside0.mk hnm
     clear hX6 hnm
     go_wp2_with fail
     refine (rfind_any T (some ⟨g, og, none⟩) AR ct cr R.length t.f0 w6 (Kd.C_below HT.out (HX.out _ HB6.out).1)).mono ?_
     rintro e w7 ⟨rfl, hb⟩
     have HB7 := Aside0.mk (join_below HB6.out hb)
     clear hb z0 g0 g1
     obtain ⟨fi, hfi⟩ : ∃ z, findS T t.f0 0 = z := ⟨_, rfl⟩
     rw [hfi]
     have HFI := Aside0.mk hfi
     clear hfi
     by_cases hf : fi = (m : Int)
     case neg =>
      have hf2 : (fi == (m : Int)) = false := beq_eq_false_iff_ne.2 hf
      have HRR : Aside0 (rx = some 4) := ⟨by rw [← HRX.out]; unfold tokS; rw [HNM.out, HFI.out, hf2]; rfl⟩
      have HR2 : Aside0 (res = some (4, (m : Int))) := ⟨by rw [← HS2.out, ← HAT.out, HRR.out]; rfl⟩
      clear hf
      go_wp2
      refine bodyPost_ret (results_tmp2 rfl _ _ _) rfl ?_
      rw [HR2.out]
      exact ⟨rfl, (HX.out _ HB7.out).1⟩
     have hf2 : (fi == (m : Int)) = true := beq_iff_eq.2 hf
     have HX1 : Aside0 ((if (t.f1 == 0 || t.f1 == 1 || t.f1 == 2) = true then orS (classS t.f2) (if M t = true then (if E t = false then none else some 11) else some 6) else some 5) = rx) := ⟨by rw [← HRX.out]; unfold tokS; rw [HNM.out, HFI.out, hf2, Bool.true_and, if_pos rfl]⟩
     subst hf
     have hX7 := HX.out _ HB7.out
     have z1 : w7.cell? ⟨bt, 1, none⟩ = some (.int .i64 t.f1) := (blk_cell hX7.2.2.1 1).trans rfl
     have z2 : w7.cell? ⟨bt, 2, none⟩ = some (.int .i64 t.f2) := (blk_cell hX7.2.2.1 2).trans rfl
     have z3 : w7.cell? ⟨bt, 3, none⟩ = some (.int .i64 t.f3.f0) := (blk_cell hX7.2.2.1 3).trans rfl
     have z4 : w7.cell? ⟨bt, 4, none⟩ = some (.slice A4 t.f3.f1.length c4) := (blk_cell hX7.2.2.1 4).trans rfl
     have z5 : w7.cell? ⟨bt, 5, none⟩ = some (.slice A5 t.f3.f2.length c5) := (blk_cell hX7.2.2.1 5).trans rfl
     clear hX7 hf2 HRX HFI
     have hk : (t.f1 < 0 ∨ (¬ t.f1 < 0 ∧ 2 < t.f1)) ∨ (¬ t.f1 < 0 ∧ ¬ 2 < t.f1) := by omega
     rcases hk with hk | ⟨hk1, hk2⟩
     case inl =>
      have HR2 : Aside0 (res = some (5, (m : Int))) := ⟨by
       have h := HX1.out
       have h3 : (t.f1 == 0 || t.f1 == 1 || t.f1 == 2) = false := by
        simp only [Bool.or_eq_false_iff, beq_eq_false_iff_ne]
        omega
       rw [h3] at h
       rw [← HS2.out, ← HAT.out, ← h]; rfl⟩
      rcases hk with hk | ⟨hk, hk2⟩
      · have d1 : decide (t.f1 < 0) = true := decide_eq_true hk
        clear hk
        go_wp2
        refine bodyPost_ret (results_tmp2 rfl _ _ _) rfl ?_
        rw [HR2.out]
        exact ⟨rfl, (HX.out _ HB7.out).1⟩
      · have d1 : decide (t.f1 < 0) = false := decide_eq_false hk
        have d2 : decide (2 < t.f1) = true := decide_eq_true hk2
        clear hk hk2
        go_wp2
        refine bodyPost_ret (results_tmp2 rfl _ _ _) rfl ?_
        rw [HR2.out]
        exact ⟨rfl, (HX.out _ HB7.out).1⟩
     have HX2 : Aside0 (orS (classS t.f2) (if M t = true then (if E t = false then none else some 11) else some 6) = rx) := ⟨by
      have h := HX1.out
      have h3 : (t.f1 == 0 || t.f1 == 1 || t.f1 == 2) = true := by
       simp only [Bool.or_eq_true, beq_iff_eq]
       omega
      rw [h3, if_pos rfl] at h
      exact h⟩
     have d1 : decide (t.f1 < 0) = false := decide_eq_false hk1
     have d2 : decide (2 < t.f1) = false := decide_eq_false hk2
     clear hk1 hk2 HX1
     have hk : (t.f2 < 0 ∨ (¬ t.f2 < 0 ∧ 31 < t.f2)) ∨ (¬ t.f2 < 0 ∧ ¬ 31 < t.f2) := by omega
     rcases hk with hk | ⟨hk1, hk2⟩
     case inl =>
      have HR2 : Aside0 (res = some (6, (m : Int))) := ⟨by
       have h := HX2.out
       unfold classS at h
       rw [if_neg (by omega)] at h
       rw [← HS2.out, ← HAT.out, ← h]; rfl⟩
      rcases hk with hk | ⟨hk, hk2⟩
      · have d3 : decide (t.f2 < 0) = true := decide_eq_true hk
        clear hk
        go_wp2
        refine bodyPost_ret (results_tmp2 rfl _ _ _) rfl ?_
        rw [HR2.out]
        exact ⟨rfl, (HX.out _ HB7.out).1⟩
      · have d3 : decide (t.f2 < 0) = false := decide_eq_false hk
        have d4 : decide (31 < t.f2) = true := decide_eq_true hk2
        clear hk hk2
        go_wp2
        refine bodyPost_ret (results_tmp2 rfl _ _ _) rfl ?_
        rw [HR2.out]
        exact ⟨rfl, (HX.out _ HB7.out).1⟩
     have HX3 : Aside0 ((if M t = true then (if E t = false then none else some 11) else some 6) = rx) := ⟨by
      have h := HX2.out
      unfold classS at h
      rw [if_pos (by omega)] at h
      exact h⟩
     have d3 : decide (t.f2 < 0) = false := decide_eq_false hk1
     have d4 : decide (31 < t.f2) = false := decide_eq_false hk2
     clear hk1 hk2 HX2
     go_wp2_with fail
     refine (HOK.out.m W w7 _ (HX.out _ HB7.out).1 HKR.out).mono ?_
     rintro e w8 ⟨rfl, hb⟩
     have HB8 := Aside0.mk (join_below HB7.out hb)
     clear hb z1 z2 z3 z4 z5 d1 d2 d3 d4
     cases hmt : M t
     case false =>
      have HR2 : Aside0 (res = some (6, (m : Int))) := ⟨by
       have h := HX3.out
       rw [hmt] at h
       rw [← HS2.out, ← HAT.out, ← h]; rfl⟩
      clear hmt
      go_wp2
      refine bodyPost_ret (results_tmp2 rfl _ _ _) rfl ?_
      rw [HR2.out]
      exact ⟨rfl, (HX.out _ HB8.out).1⟩
     have hX8 := HX.out _ HB8.out
     have z3 : w8.cell? ⟨bt, 3, none⟩ = some (.int .i64 t.f3.f0) := (blk_cell hX8.2.2.1 3).trans rfl
     have z4 : w8.cell? ⟨bt, 4, none⟩ = some (.slice A4 t.f3.f1.length c4) := (blk_cell hX8.2.2.1 4).trans rfl
     have z5 : w8.cell? ⟨bt, 5, none⟩ = some (.slice A5 t.f3.f2.length c5) := (blk_cell hX8.2.2.1 5).trans rfl
     have HX4 : Aside0 ((if E t = false then none else some 11) = rx) := ⟨by
      have h := HX3.out
      rw [hmt, if_pos rfl] at h
      exact h⟩
     have HE := Aside0.mk (HOK.out.e hmt W w8 _ (HX.out _ HB8.out).1 HKR.out)
     clear hX8 hmt
     go_wp2_with fail
     refine HE.out.mono ?_
     rintro e w9 ⟨rfl, hb⟩
     have HB9 := Aside0.mk (join_below HB8.out hb)
     clear hb z3 z4 z5 HE
     cases het : E t
     case true =>
      have HR2 : Aside0 (res = some (11, (m : Int))) := ⟨by
       have h := HX4.out
       rw [het] at h
       rw [← HS2.out, ← HAT.out, ← h]; rfl⟩
      clear het
      go_wp2
      refine bodyPost_ret (results_tmp2 rfl _ _ _) rfl ?_
      rw [HR2.out]
      exact ⟨rfl, (HX.out _ HB9.out).1⟩
     have HN : Aside0 (toksS M E T (m + 1) (T.drop (m + 1)) = rt) := ⟨by
      have h := HX4.out
      rw [het, if_pos rfl] at h
      rw [← HAT.out, ← h]; rfl⟩
     clear het
     go_wp2
     go_roundw
     case rel => exact ⟨m + 1, by go_num, HLT.out, ⟨⟨(HX.out _ HB9.out).2.1, HN.out⟩⟩⟩
     case measure => have := HLT.out; simp [intOf]; omega
   · have e1 : decide (m < T.length) = false := decide_eq_false hlt
     have HF : Aside0 (Below w1.heap.size w1 w4 ∧ rt = none) := ⟨HI.out.1, by
      have h := HI.out.2
      rw [List.drop_of_length_le (by omega)] at h
      exact h.symm⟩
     clear hlt
     go_wp2
     go_meet
     case rel => exact HF
 case rest =>
  obtain ⟨w2, hw2⟩ : ∃ z, wc = z := ⟨_, rfl⟩
  rw [hw2] at hcut ⊢
  clear hw2
  have HB2 := Aside0.mk hcut.out.1
  have HS3 : Aside0 (lateS T R = res) := ⟨by rw [← HS2.out, hcut.out.2]; rfl⟩
  clear hcut HS2 HRT
  have HB02 := Aside0.mk (join_below HB0.out HB2.out)
  have y1 : w2.cell? ⟨bg, 1, none⟩ = some (.slice AR R.length cr) := (blk_cell (blk_below HKG.out HB2.out) 1).trans rfl
  by_cases h8 : 8 < R.length
  · have d1 : decide (8 < R.length) = true := decide_eq_true h8
    have d1z : decide (8 < (R.length : Int)) = true := decide_eq_true (by omega)
    have HR2 : Aside0 (res = some (6, (T.length : Int))) := ⟨by rw [← HS3.out]; unfold lateS; rw [if_neg (by omega)]⟩
    go_wp2
    refine bodyPost_ret (results_tmp2 rfl _ _ _) rfl ?_
    rw [HR2.out]
    exact ⟨rfl, HB02.out⟩
  have d1 : decide (8 < R.length) = false := decide_eq_false h8
  have d1z : decide (8 < (R.length : Int)) = false := decide_eq_false (by omega)
  have HS4 : Aside0 (rulesS T 0 (R.drop 0) = res) := ⟨by rw [← HS3.out]; unfold lateS; rw [if_pos (by omega)]; rfl⟩
  have hR8 : R.length ≤ 8 := by omega
  clear HS3
  go_wp2_with fail
  clear d1 d1z y1 h8
  go_loopw [7] (fun i w => ∃ m : Nat, i = .int .i64 (m : Int) ∧ m ≤ R.length ∧ Aside0 (Below w2.heap.size w2 w ∧ rulesS T m (R.drop m) = res)) (fun i _ => R.length - (intOf i).toNat)
  case atStart => exact ⟨0, rfl, Nat.zero_le _, ⟨⟨Below.refl _ _, HS4.out⟩⟩⟩
  case round =>
   obtain ⟨m, rfl, hm, HI⟩ := hrel
   obtain ⟨w4, hw4⟩ : ∃ z, wr = z := ⟨_, rfl⟩
   rw [hw4] at HI ⊢
   clear hw4
   have HB4 := Aside0.mk (join_below HB02.out HI.out.1)
   have HB14 := Aside0.mk (join_below HB2.out HI.out.1)
   have y1 : w4.cell? ⟨bg, 1, none⟩ = some (.slice AR R.length cr) := (blk_cell (blk_below HKG.out HB14.out) 1).trans rfl
   by_cases hlt : m < R.length
   · have e1 : decide (m < R.length) = true := decide_eq_true hlt
     have hil : (m : Int) < R.length := by omega
     have hm8 : (m : Int) ≤ 8 := by omega
     have ht16 : (T.length : Int) ≤ 16 := by omega
     obtain ⟨g, og, hA, _, hcell⟩ := row_cells HR.out (by omega) (by decide)
     subst hA
     obtain ⟨r, hr⟩ : ∃ r, R[m]? = some r := ⟨_, List.getElem?_eq_getElem hlt⟩
     obtain ⟨cs, _, hK, hcc⟩ := hcell m r hr
     have HKR := Aside0.mk hK
     obtain ⟨A2, c2, rfl, l2, g2⟩ := k43_open hK
     have HCC := Aside0.mk hcc
     have HLT := Aside0.mk hlt
     have HAT := Aside0.mk ((rulesS_at T hr).symm.trans HI.out.2)
     have HSR := Aside0.mk (HSZ.out r (List.mem_of_getElem? hr))
     clear hcell hcc hK hr hlt l2 g2
     go_upto_region 21 with (fail)
     clear e1 y1
     have g0 : ∀ p : Later w4, p.wx.cell? ⟨bg, 0, none⟩ = some (.slice AT T.length ct) := fun p => (blk_cell (blk_below HKG.out (join_below HB14.out p.below)) 0).trans rfl
     have g1 : ∀ p : Later w4, p.wx.cell? ⟨bg, 1, none⟩ = some (.slice (some ⟨g, og, none⟩) R.length cr) := fun p => (blk_cell (blk_below HKG.out (join_below HB14.out p.below)) 1).trans rfl
     have z0 : ∀ p : Later w4, p.wx.cell? ⟨g, og + m * 3 + 0, none⟩ = some (.int .i64 r.f0) := fun p => cell_after p.below (cell_after HB4.out (HCC.out 0 _ rfl))
     have z1 : ∀ p : Later w4, p.wx.cell? ⟨g, og + m * 3 + 1, none⟩ = some (.bool r.f1) := fun p => cell_after p.below (cell_after HB4.out (HCC.out 1 _ rfl))
     have z2 : ∀ p : Later w4, p.wx.cell? ⟨g, og + m * 3 + 2, none⟩ = some (.slice A2 r.f2.length c2) := fun p => cell_after p.below (cell_after HB4.out (HCC.out 2 _ rfl))
     simp only [Nat.add_zero] at z0
     obtain ⟨wd, hwd⟩ : ∃ z, w4.drew = z := ⟨_, rfl⟩
     have HLW : Aside0 (Below w4.heap.size w4 wd) := ⟨hwd ▸ below_drew1 (Below.refl _ _)⟩
     refine wp_region_held (S := fun w' => ∃ p : Later w4, w' = p.wx) (by kernel_rfl) ?_
     change wpAnyH _ _ _ _ _ _ _ _ (World.drew _)
     rw [hwd]
     clear hwd
     iterate 6 ((first | refine takeR (i := 0) (by decide +kernel) (by rfl) ?_ ?_ ?_ | refine takeR (i := 1) (by decide +kernel) (by rfl) ?_ ?_ ?_ | refine takeR (i := 2) (by decide +kernel) (by rfl) ?_ ?_ ?_ | refine takeR (i := 3) (by decide +kernel) (by rfl) ?_ ?_ ?_ | refine takeR (i := 4) (by decide +kernel) (by rfl) ?_ ?_ ?_ | refine takeR (i := 5) (by decide +kernel) (by rfl) ?_ ?_ ?_); (focus first | exact fun _ _ _ _ h => h | exact fun _ _ _ _ h => HPQ.out _ _ _ _ (by rfl) h); (focus exact ⟨⟨_, HLW.out⟩, rfl⟩); intro K hK; go_simp; (with_reducible refine hK _ ?_); clear hK K)
     refine hall1 (i := 6) (by kernel_rfl) (by rfl) (fun K hK => ?_)
     go_simp
     refine (rrule_any T r HSR.out AT (some ⟨g, og, none⟩) ct cr R.length W _ _ (join_below HB4.out HLW.out) HKR.out (Kd.C_below HT.out (join_below HB4.out HLW.out))).mono ?_
     rintro e w5 ⟨rfl, hd⟩
     have HB5 : Aside0 (Below w4.heap.size w4 w5) := ⟨join_below HLW.out hd⟩
     clear hd g0 g1 z0 z1 z2
     refine hK _ _ ⟨⟨_, HB5.out⟩, rfl⟩ ?_
     clear hK K
     (refine takeR (i := 7) (by kernel_rfl) (by rfl) ?_ ?_ ?_; (focus first | exact fun _ _ _ _ h => h | exact fun _ _ _ _ h => HPQ.out _ _ _ _ (by rfl) h); (focus exact ⟨⟨_, HB5.out⟩, rfl⟩); intro K hK; go_simp; (with_reducible refine hK _ ?_); clear hK K)
     refine wpAnyH_done (by kernel_rfl) ?_ _
     obtain ⟨r3, hr3⟩ : ∃ z, ruleS T r = z := ⟨_, rfl⟩
     have HR1 := Aside0.mk hr3
     rw [hr3] at HAT ⊢
     clear hr3 HLW
     cases r3 with
     | some c =>
      have hne := ruleS_ne T r c HR1.out
      have e1 : (codeI (some c) == 0) = false := beq_eq_false_iff_ne.2 hne
      have HRR : Aside0 (res = some (c, (T.length : Int) + m)) := ⟨HAT.out.symm⟩
      clear hne
      go_wp2
      refine bodyPost_ret (results_tmp2 rfl _ _ _) rfl ?_
      rw [HRR.out]
      exact ⟨rfl, join_below HB4.out HB5.out⟩
     | none =>
      have e1 : (codeI none == 0) = true := rfl
      have HA2 : Aside0 (rulesS T (m + 1) (R.drop (m + 1)) = res) := ⟨HAT.out⟩
      clear HAT
      go_wp2
      go_roundw
      case rel => exact ⟨m + 1, by go_num, HLT.out, ⟨⟨join_below HI.out.1 HB5.out, HA2.out⟩⟩⟩
      case measure => have := HLT.out; simp [intOf]; omega
   · have e1 : decide (m < R.length) = false := decide_eq_false hlt
     have HRR : Aside0 (res = none) := ⟨by
      have h := HI.out.2
      rw [List.drop_of_length_le (by omega)] at h
      exact h.symm⟩
     clear hlt
     go_wp2
     refine bodyPost_ret (results_tmp2 rfl _ _ _) rfl ?_
     rw [HRR.out]
     exact ⟨rfl, HB4.out⟩
end Go.Proofs.YthdfmbmbjpmlaaaGreatDoor.Rn
end
section
namespace Go.Proofs.YthdfmbmbjpmlaaaGreatDoor.Rn
open Go.RowKit Go.Proofs.YthdfmbmbjpmlaaaGreatDoorW.PrintWords Go.Proofs.YthdfmbmbjpmlaaaGreatDoorW.PrintLast Go.Proofs.YthdfmbmbjpmlaaaGreatDoorW.PrintMore
attribute [local go_sem] max2_int min2_int max_two min_two max_three min_three max_four min_four   -- for this text's walks alone
set_option linter.unusedVariables false
set_option linter.unusedSimpArgs false
def goboref3_Same.l0 : Nat → List (S80) → List (S80) → Int → Option (Bool)
 | 0, _, _, _ => none
 | k + 1, x0, x1, x5 => if x5 < (x0.length : Int) then (if 0 ≤ x5 then (if x5 < (x1.length : Int) then (if (!(((rd_T80 x0 x5).f0) == ((rd_T80 x1 x5).f0)) || (!(((rd_T80 x0 x5).f1) == ((rd_T80 x1 x5).f1)))) = true then (some false) else (goboref3_Same.l0 k x0 x1 (wrap64 (x5 + 1)))) else (none)) else (none)) else (some true)
def goboref3_Same.f (k : Nat) (l0 : List (S80)) (l1 : List (S80)) : Option (Bool) := if (l0.length : Int) = (l1.length : Int) then (goboref3_Same.l0 k l0 l1 0) else (some false)
theorem goboref3_Same.mono_l : ∀ k, (∀ y0 y1 y2, LeO (goboref3_Same.l0 k y0 y1 y2) (goboref3_Same.l0 (k + 1) y0 y1 y2))
 | 0 => fun _ _ _ r h => by simp [goboref3_Same.l0] at h
 | k + 1 => by
  have ih0 := goboref3_Same.mono_l k
  · intro y0 y1 y2
    unfold goboref3_Same.l0
    repeat' first
    | (with_reducible exact ih0 _ _ _)
    | (with_reducible exact LeO.refl _)
    | (with_reducible exact LeO.none _)
    | (with_reducible refine LeO.ite ?_ ?_)
    | (with_reducible refine LeO.bind ?_ (fun _ => ?_))
    | exact ih0 _ _ _
    | exact LeO.none _
    | refine LeO.ite ?_ ?_
    | refine LeO.bind ?_ (fun _ => ?_)
theorem goboref3_Same.mono : ∀ a0 a1 k, LeO (goboref3_Same.f k a0 a1) (goboref3_Same.f (k + 1) a0 a1) := by
 intro a0 a1 k
 have ih0 := goboref3_Same.mono_l k
 unfold goboref3_Same.f
 repeat' first
  | (with_reducible exact ih0 _ _ _)
  | (with_reducible exact LeO.refl _)
  | (with_reducible exact LeO.none _)
  | (with_reducible refine LeO.ite ?_ ?_)
  | (with_reducible refine LeO.bind ?_ (fun _ => ?_))
  | exact ih0 _ _ _
  | exact LeO.none _
  | refine LeO.ite ?_ ?_
  | refine LeO.bind ?_ (fun _ => ?_)
set_option maxHeartbeats 8000000 in
set_option maxRecDepth 100000 in
theorem goboref3_Same.calls (k : Nat) (A0 : Option Addr) (c0 : Nat) (l0 : List (S80)) (A1 : Option Addr) (c1 : Nat) (l1 : List (S80)) (r : Bool) (w : World) (hr0 : Kd.C k80 w A0 l0.length l0) (hc0 : l0.length ≤ c0) (hr1 : Kd.C k80 w A1 l1.length l1) (hc1 : l1.length ≤ c1) (h : goboref3_Same.f k l0 l1 = some r) :
 Calls Tryz.prog 64 #[.slice A0 l0.length c0, .slice A1 l1.length c1] w fun e w' => e = .returned (.bool r) ∧ Drawn0 w w' := by
 have hu80 := Tryz.underlying80
 have HR0 := Aside0.mk hr0
 have HC0 := Aside0.mk hc0
 clear hr0 hc0
 have HR1 := Aside0.mk hr1
 have HC1 := Aside0.mk hc1
 clear hr1 hc1
 have H : (if (l0.length : Int) = (l1.length : Int) then (goboref3_Same.l0 k l0 l1 0) else (some false)) = some r := h
 clear h
 by_cases c3 : (l0.length : Int) = (l1.length : Int)
 · rw [if_pos c3] at H
   have c3b0 : ((l0.length : Int) == (l1.length : Int)) = true := beq_iff_eq.mpr c3
   have c3b1 : ((l0.length : Int) != (l1.length : Int)) = false := bne_eq_false_iff_eq.mpr c3
   have c3b2 : (l0.length == l1.length) = true := by first | simpa using c3 | (simp at c3 ⊢; omega)
   clear c3
   have H' := Aside0.mk H
   clear H
   go_enter Tryz.func64, Tryz.ntmps64
   go_wp2
   repeat (go_quiet (fail); try go_wp2)
   go_loopg [5] k (fun kq v5 w' => ∃ (x5_1 : Int), v5 = .int .i64 x5_1 ∧ Aside0 (goboref3_Same.l0 kq l0 l1 x5_1 = some r) ∧ Aside0 (kq ≤ k) ∧ Drawn0 w w')
   case atStart => exact ⟨(0), (by first | rfl | (simp; done) | (simp [*]; done)), H', ⟨Nat.le_refl _⟩, by repeat (first | exact Drawn0.refl _ | apply Drawn0.step)⟩
   case round =>
    clear H'
    try clear c1
    try clear c3
    try clear c3b0
    try clear c3b1
    try clear c3b2
    obtain ⟨x5_1, rfl, HA, HK1, ⟨m1, rfl⟩⟩ := hrel
    cases gk with
    | zero => exact absurd HA.out (by simp [goboref3_Same.l0])
    | succ k1 =>
     have H := HA.out
     clear HA
     simp only [goboref3_Same.l0] at H
     by_cases c4 : x5_1 < (l0.length : Int)
     · rw [if_pos c4] at H
       have c4b0 : decide (x5_1 < (l0.length : Int)) = true := decide_eq_true c4
       clear c4
       by_cases c5 : 0 ≤ x5_1
       · rw [if_pos c5] at H
         have c5b0 : decide (0 ≤ x5_1) = true := decide_eq_true c5
         clear c5
         by_cases c6 : x5_1 < (l1.length : Int)
         · rw [if_pos c6] at H
           have c6b0 : decide (x5_1 < (l1.length : Int)) = true := decide_eq_true c6
           clear c6
           by_cases c7 : (!(((rd_T80 l0 x5_1).f0) == ((rd_T80 l1 x5_1).f0)) || (!(((rd_T80 l0 x5_1).f1) == ((rd_T80 l1 x5_1).f1)))) = true
           · rw [if_pos c7] at H
             have c7b0 : (!(((rd_T80 l0 x5_1).f0) == ((rd_T80 l1 x5_1).f0)) || (!(((rd_T80 l0 x5_1).f1) == ((rd_T80 l1 x5_1).f1)))) = true := c7
             clear c7
             obtain rfl := Option.some.inj H
             have p275 : 0 ≤ (x5_1 : Int) := of_decide_eq_true (by first | (with_reducible assumption) | assumption)
             have q275 : x5_1 < (l0.length : Int) := of_decide_eq_true (by first | (with_reducible assumption) | assumption)
             obtain ⟨ad275, e275, hx275_0, hx275_1⟩ := at_T80 HR0.out x5_1 p275 q275
             cases e275
             replace p275 := eq_true p275
             replace q275 := eq_true q275
             have p276 : 0 ≤ (x5_1 : Int) := of_decide_eq_true (by first | (with_reducible assumption) | assumption)
             have q276 : x5_1 < (l1.length : Int) := of_decide_eq_true (by first | (with_reducible assumption) | assumption)
             obtain ⟨ad276, e276, hx276_0, hx276_1⟩ := at_T80 HR1.out x5_1 p276 q276
             cases e276
             replace p276 := eq_true p276
             replace q276 := eq_true q276
             by_cases e0 : (rd_T80 l0 x5_1).f0 = (rd_T80 l1 x5_1).f0
             all_goals (by_cases e1 : (rd_T80 l0 x5_1).f1 = (rd_T80 l1 x5_1).f1)
             all_goals (first | (simp [e0, e1] at c7b0; done) | (go_wp2; repeat (go_quiet (fail); try go_wp2); go_ret; exact ⟨by first | rfl | (simp; done) | (simp [*]; done), by repeat (first | exact Drawn0.refl _ | apply Drawn0.step)⟩))
           · rw [if_neg c7] at H
             have c7b0 : (!(((rd_T80 l0 x5_1).f0) == ((rd_T80 l1 x5_1).f0)) || (!(((rd_T80 l0 x5_1).f1) == ((rd_T80 l1 x5_1).f1)))) = false := by simpa using c7
             obtain ⟨e0, e1⟩ : (rd_T80 l0 x5_1).f0 = (rd_T80 l1 x5_1).f0 ∧ (rd_T80 l0 x5_1).f1 = (rd_T80 l1 x5_1).f1 := by simpa using c7b0
             clear c7
             have H' := Aside0.mk H
             clear H
             have p275 : 0 ≤ (x5_1 : Int) := of_decide_eq_true (by first | (with_reducible assumption) | assumption)
             have q275 : x5_1 < (l0.length : Int) := of_decide_eq_true (by first | (with_reducible assumption) | assumption)
             obtain ⟨ad275, e275, hx275_0, hx275_1⟩ := at_T80 HR0.out x5_1 p275 q275
             cases e275
             replace p275 := eq_true p275
             replace q275 := eq_true q275
             have p276 : 0 ≤ (x5_1 : Int) := of_decide_eq_true (by first | (with_reducible assumption) | assumption)
             have q276 : x5_1 < (l1.length : Int) := of_decide_eq_true (by first | (with_reducible assumption) | assumption)
             obtain ⟨ad276, e276, hx276_0, hx276_1⟩ := at_T80 HR1.out x5_1 p276 q276
             cases e276
             replace p276 := eq_true p276
             replace q276 := eq_true q276
             go_wp2
             repeat (go_quiet (fail); try go_wp2)
             go_roundg k1
             case measure => have := HK1.out; omega
             case rel => exact ⟨(wrap64 (x5_1 + 1)), (by first | rfl | (simp; done) | (simp [*]; done)), H', ⟨by have := HK1.out; omega⟩, by repeat (first | exact Drawn0.refl _ | apply Drawn0.step)⟩
         · rw [if_neg c6] at H
           exact absurd H (by simp)
       · rw [if_neg c5] at H
         exact absurd H (by simp)
     · rw [if_neg c4] at H
       have c4b0 : decide (x5_1 < (l0.length : Int)) = false := decide_eq_false c4
       clear c4
       obtain rfl := Option.some.inj H
       go_wp2
       repeat (go_quiet (fail); try go_wp2)
       go_ret
       exact ⟨by first | rfl | (simp; done) | (simp [*]; done), by repeat (first | exact Drawn0.refl _ | apply Drawn0.step)⟩
 · rw [if_neg c3] at H
   have c3b0 : ((l0.length : Int) == (l1.length : Int)) = false := beq_eq_false_iff_ne.mpr c3
   have c3b1 : ((l0.length : Int) != (l1.length : Int)) = true := bne_iff_ne.mpr c3
   have c3b2 : (l0.length == l1.length) = false := by first | simpa using c3 | (simp at c3 ⊢; omega)
   obtain rfl := Option.some.inj H
   go_enter Tryz.func64, Tryz.ntmps64
   go_wp2
   repeat (go_quiet (fail); try go_wp2)
   go_ret
   exact ⟨by first | rfl | (simp; done) | (simp [*]; done), by repeat (first | exact Drawn0.refl _ | apply Drawn0.step)⟩
def goboref3_in.l0 : Nat → List (S114) → Int → Int → Option (Bool)
 | 0, _, _, _ => none
 | k + 1, x0, x1, x5 => if x5 < (x0.length : Int) then (if 0 ≤ x5 then (if ((rd_T114 x0 x5).f0) ≤ x1 then (if x1 < ((rd_T114 x0 x5).f1) then (some true) else (goboref3_in.l0 k x0 x1 (wrap64 (x5 + 1)))) else (goboref3_in.l0 k x0 x1 (wrap64 (x5 + 1)))) else (none)) else (some false)
def goboref3_in.f (k : Nat) (l0 : List (S114)) (a1 : Int) : Option (Bool) := goboref3_in.l0 k l0 a1 0
theorem goboref3_in.mono_l : ∀ k, (∀ y0 y1 y2, LeO (goboref3_in.l0 k y0 y1 y2) (goboref3_in.l0 (k + 1) y0 y1 y2))
 | 0 => fun _ _ _ r h => by simp [goboref3_in.l0] at h
 | k + 1 => by
  have ih0 := goboref3_in.mono_l k
  · intro y0 y1 y2
    unfold goboref3_in.l0
    repeat' first
    | (with_reducible exact ih0 _ _ _)
    | (with_reducible exact LeO.refl _)
    | (with_reducible exact LeO.none _)
    | (with_reducible refine LeO.ite ?_ ?_)
    | (with_reducible refine LeO.bind ?_ (fun _ => ?_))
    | exact ih0 _ _ _
    | exact LeO.none _
    | refine LeO.ite ?_ ?_
    | refine LeO.bind ?_ (fun _ => ?_)
theorem goboref3_in.mono : ∀ a0 a1 k, LeO (goboref3_in.f k a0 a1) (goboref3_in.f (k + 1) a0 a1) := by
 intro a0 a1 k
 have ih0 := goboref3_in.mono_l k
 unfold goboref3_in.f
 repeat' first
  | (with_reducible exact ih0 _ _ _)
  | (with_reducible exact LeO.refl _)
  | (with_reducible exact LeO.none _)
  | (with_reducible refine LeO.ite ?_ ?_)
  | (with_reducible refine LeO.bind ?_ (fun _ => ?_))
  | exact ih0 _ _ _
  | exact LeO.none _
  | refine LeO.ite ?_ ?_
  | refine LeO.bind ?_ (fun _ => ?_)
set_option maxHeartbeats 8000000 in
set_option maxRecDepth 100000 in
theorem goboref3_in.calls (k : Nat) (A0 : Option Addr) (c0 : Nat) (l0 : List (S114)) (a1 : Int) (r : Bool) (w : World) (hr0 : Kd.C k114 w A0 l0.length l0) (hc0 : l0.length ≤ c0) (h : goboref3_in.f k l0 a1 = some r) :
 Calls Tryz.prog 93 #[.slice A0 l0.length c0, .int .i64 a1] w fun e w' => e = .returned (.bool r) ∧ Drawn0 w w' := by
 have HR0 := Aside0.mk hr0
 have HC0 := Aside0.mk hc0
 clear hr0 hc0
 have H : (goboref3_in.l0 k l0 a1 0) = some r := h
 clear h
 have H' := Aside0.mk H
 clear H
 go_enter Tryz.func93, Tryz.ntmps93
 go_wp2
 go_loopg [5] k (fun kq v5 w' => ∃ (x5_1 : Int), v5 = .int .i64 x5_1 ∧ Aside0 (goboref3_in.l0 kq l0 a1 x5_1 = some r) ∧ Aside0 (kq ≤ k) ∧ Drawn0 w w')
 case atStart => exact ⟨(0), (by first | rfl | (simp; done) | (simp [*]; done)), H', ⟨Nat.le_refl _⟩, by repeat (first | exact Drawn0.refl _ | apply Drawn0.step)⟩
 case round =>
  clear H'
  obtain ⟨x5_1, rfl, HA, HK1, ⟨m1, rfl⟩⟩ := hrel
  cases gk with
  | zero => exact absurd HA.out (by simp [goboref3_in.l0])
  | succ k1 =>
   have H := HA.out
   clear HA
   simp only [goboref3_in.l0] at H
   by_cases c3 : x5_1 < (l0.length : Int)
   · rw [if_pos c3] at H
     have c3b0 : decide (x5_1 < (l0.length : Int)) = true := decide_eq_true c3
     clear c3
     by_cases c4 : 0 ≤ x5_1
     · rw [if_pos c4] at H
       have c4b0 : decide (0 ≤ x5_1) = true := decide_eq_true c4
       clear c4
       by_cases c5 : ((rd_T114 l0 x5_1).f0) ≤ a1
       · rw [if_pos c5] at H
         have c5b0 : decide (((rd_T114 l0 x5_1).f0) ≤ a1) = true := decide_eq_true c5
         clear c5
         by_cases c6 : a1 < ((rd_T114 l0 x5_1).f1)
         · rw [if_pos c6] at H
           have c6b0 : decide (a1 < ((rd_T114 l0 x5_1).f1)) = true := decide_eq_true c6
           clear c6
           obtain rfl := Option.some.inj H
           have p321 : 0 ≤ (x5_1 : Int) := of_decide_eq_true (by first | (with_reducible assumption) | assumption)
           have q321 : x5_1 < (l0.length : Int) := of_decide_eq_true (by first | (with_reducible assumption) | assumption)
           obtain ⟨ad321, e321, hx321_0, hx321_1⟩ := at_T114 HR0.out x5_1 p321 q321
           cases e321
           replace p321 := eq_true p321
           replace q321 := eq_true q321
           have p322 : 0 ≤ (x5_1 : Int) := of_decide_eq_true (by first | (with_reducible assumption) | assumption)
           have q322 : x5_1 < (l0.length : Int) := of_decide_eq_true (by first | (with_reducible assumption) | assumption)
           obtain ⟨ad322, e322, hx322_0, hx322_1⟩ := at_T114 HR0.out x5_1 p322 q322
           obtain rfl : ad321 = ad322 := (by injection e322)
           replace p322 := eq_true p322
           replace q322 := eq_true q322
           go_wp2
           go_ret
           exact ⟨by first | rfl | (simp; done) | (simp [*]; done), by repeat (first | exact Drawn0.refl _ | apply Drawn0.step)⟩
         · rw [if_neg c6] at H
           have c6b0 : decide (a1 < ((rd_T114 l0 x5_1).f1)) = false := decide_eq_false c6
           clear c6
           have H' := Aside0.mk H
           clear H
           have p321 : 0 ≤ (x5_1 : Int) := of_decide_eq_true (by first | (with_reducible assumption) | assumption)
           have q321 : x5_1 < (l0.length : Int) := of_decide_eq_true (by first | (with_reducible assumption) | assumption)
           obtain ⟨ad321, e321, hx321_0, hx321_1⟩ := at_T114 HR0.out x5_1 p321 q321
           cases e321
           replace p321 := eq_true p321
           replace q321 := eq_true q321
           have p322 : 0 ≤ (x5_1 : Int) := of_decide_eq_true (by first | (with_reducible assumption) | assumption)
           have q322 : x5_1 < (l0.length : Int) := of_decide_eq_true (by first | (with_reducible assumption) | assumption)
           obtain ⟨ad322, e322, hx322_0, hx322_1⟩ := at_T114 HR0.out x5_1 p322 q322
           obtain rfl : ad321 = ad322 := (by injection e322)
           replace p322 := eq_true p322
           replace q322 := eq_true q322
           go_wp2
           go_roundg k1
           case measure => have := HK1.out; omega
           case rel => exact ⟨(wrap64 (x5_1 + 1)), (by first | rfl | (simp; done) | (simp [*]; done)), H', ⟨by have := HK1.out; omega⟩, by repeat (first | exact Drawn0.refl _ | apply Drawn0.step)⟩
       · rw [if_neg c5] at H
         have c5b0 : decide (((rd_T114 l0 x5_1).f0) ≤ a1) = false := decide_eq_false c5
         clear c5
         have H' := Aside0.mk H
         clear H
         have p321 : 0 ≤ (x5_1 : Int) := of_decide_eq_true (by first | (with_reducible assumption) | assumption)
         have q321 : x5_1 < (l0.length : Int) := of_decide_eq_true (by first | (with_reducible assumption) | assumption)
         obtain ⟨ad321, e321, hx321_0, hx321_1⟩ := at_T114 HR0.out x5_1 p321 q321
         cases e321
         replace p321 := eq_true p321
         replace q321 := eq_true q321
         go_wp2
         go_roundg k1
         case measure => have := HK1.out; omega
         case rel => exact ⟨(wrap64 (x5_1 + 1)), (by first | rfl | (simp; done) | (simp [*]; done)), H', ⟨by have := HK1.out; omega⟩, by repeat (first | exact Drawn0.refl _ | apply Drawn0.step)⟩
     · rw [if_neg c4] at H
       exact absurd H (by simp)
   · rw [if_neg c3] at H
     have c3b0 : decide (x5_1 < (l0.length : Int)) = false := decide_eq_false c3
     clear c3
     obtain rfl := Option.some.inj H
     go_wp2
     go_ret
     exact ⟨by first | rfl | (simp; done) | (simp [*]; done), by repeat (first | exact Drawn0.refl _ | apply Drawn0.step)⟩
def goboref3_at.f (a0 : Int) : Option (Int) := if a0 ≥ 55296 then (some (wrap32 (wrap64 (a0 + 2048)))) else (some (wrap32 (a0)))
set_option maxHeartbeats 8000000 in
set_option maxRecDepth 100000 in
theorem goboref3_at.calls (a0 : Int) (r : Int) (w : World) (h : goboref3_at.f a0 = some r) :
 Calls Tryz.prog 94 #[.int .i64 a0] w fun e w' => e = .returned (.int .i32 r) ∧ Drawn0 w w' := by
 have H : (if a0 ≥ 55296 then (some (wrap32 (wrap64 (a0 + 2048)))) else (some (wrap32 (a0)))) = some r := h
 clear h
 by_cases c2 : a0 ≥ 55296
 · rw [if_pos c2] at H
   have c2b0 : decide (55296 ≤ a0) = true := decide_eq_true c2
   clear c2
   obtain rfl := Option.some.inj H
   go_enter Tryz.func94, Tryz.ntmps94
   go_wp2
   go_ret
   exact ⟨by first | rfl | (simp; done) | (simp [*]; done), by repeat (first | exact Drawn0.refl _ | apply Drawn0.step)⟩
 · rw [if_neg c2] at H
   have c2b0 : decide (55296 ≤ a0) = false := decide_eq_false c2
   clear c2
   obtain rfl := Option.some.inj H
   go_enter Tryz.func94, Tryz.ntmps94
   go_wp2
   go_ret
   exact ⟨by first | rfl | (simp; done) | (simp [*]; done), by repeat (first | exact Drawn0.refl _ | apply Drawn0.step)⟩
def goboref3_place.j0 : Nat → Int → Bool → Bool → Option (Int)
 | 0, _, _, _ => none
 | k + 1, x0, x1, x12 => if x12 = true then (some 55296) else (if x0 ≤ 57343 then (some 55295) else (if x0 > 1114111 then (if x1 = true then (some 1112064) else (some 1112063)) else (some (wrap64 (x0 - 2048)))))
def goboref3_place.f (k : Nat) (a0 : Int) (a1 : Bool) : Option (Int) := if a0 < 0 then (some 0) else (if a0 < 55296 then (some a0) else (if a0 ≤ 57343 then (goboref3_place.j0 k a0 a1 a1) else (goboref3_place.j0 k a0 a1 false)))
theorem goboref3_place.mono_l : ∀ k, (∀ y0 y1 y2, LeO (goboref3_place.j0 k y0 y1 y2) (goboref3_place.j0 (k + 1) y0 y1 y2))
 | 0 => fun _ _ _ r h => by simp [goboref3_place.j0] at h
 | k + 1 => by
  have ih0 := goboref3_place.mono_l k
  · intro y0 y1 y2
    unfold goboref3_place.j0
    repeat' first
    | (with_reducible exact ih0 _ _ _)
    | (with_reducible exact LeO.refl _)
    | (with_reducible exact LeO.none _)
    | (with_reducible refine LeO.ite ?_ ?_)
    | (with_reducible refine LeO.bind ?_ (fun _ => ?_))
    | exact ih0 _ _ _
    | exact LeO.none _
    | refine LeO.ite ?_ ?_
    | refine LeO.bind ?_ (fun _ => ?_)
theorem goboref3_place.mono : ∀ a0 a1 k, LeO (goboref3_place.f k a0 a1) (goboref3_place.f (k + 1) a0 a1) := by
 intro a0 a1 k
 have ih0 := goboref3_place.mono_l k
 unfold goboref3_place.f
 repeat' first
  | (with_reducible exact ih0 _ _ _)
  | (with_reducible exact LeO.refl _)
  | (with_reducible exact LeO.none _)
  | (with_reducible refine LeO.ite ?_ ?_)
  | (with_reducible refine LeO.bind ?_ (fun _ => ?_))
  | exact ih0 _ _ _
  | exact LeO.none _
  | refine LeO.ite ?_ ?_
  | refine LeO.bind ?_ (fun _ => ?_)
set_option maxHeartbeats 8000000 in
set_option maxRecDepth 100000 in
theorem goboref3_place.calls (k : Nat) (a0 : Int) (a1 : Bool) (r : Int) (w : World) (h : goboref3_place.f k a0 a1 = some r) :
 Calls Tryz.prog 95 #[.int .i64 a0, .bool a1] w fun e w' => e = .returned (.int .i64 r) ∧ Drawn0 w w' := by
 have H : (if a0 < 0 then (some 0) else (if a0 < 55296 then (some a0) else (if a0 ≤ 57343 then (goboref3_place.j0 k a0 a1 a1) else (goboref3_place.j0 k a0 a1 false)))) = some r := h
 clear h
 by_cases c3 : a0 < 0
 · rw [if_pos c3] at H
   have c3b0 : decide (a0 < 0) = true := decide_eq_true c3
   clear c3
   obtain rfl := Option.some.inj H
   go_enter Tryz.func95, Tryz.ntmps95
   go_wp2
   go_ret
   exact ⟨by first | rfl | (simp; done) | (simp [*]; done), by repeat (first | exact Drawn0.refl _ | apply Drawn0.step)⟩
 · rw [if_neg c3] at H
   have c3b0 : decide (a0 < 0) = false := decide_eq_false c3
   clear c3
   by_cases c4 : a0 < 55296
   · rw [if_pos c4] at H
     have c4b0 : decide (a0 < 55296) = true := decide_eq_true c4
     clear c4
     obtain rfl := Option.some.inj H
     go_enter Tryz.func95, Tryz.ntmps95
     go_wp2
     go_ret
     exact ⟨by first | rfl | (simp; done) | (simp [*]; done), by repeat (first | exact Drawn0.refl _ | apply Drawn0.step)⟩
   · rw [if_neg c4] at H
     have c4b0 : decide (a0 < 55296) = false := decide_eq_false c4
     clear c4
     have HC5 := Aside0.mk H
     clear H
     go_enter Tryz.func95, Tryz.ntmps95
     go_upto_region 5 with (fail)
     go_cut [12] (fun v12 wc => ∃ (kq : Nat) (x12_4 : Bool), v12 = .bool x12_4 ∧ Aside0 (goboref3_place.j0 kq a0 a1 x12_4 = some r) ∧ Aside0 (kq ≤ k) ∧ Drawn0 w wc)
     case first =>
      have H := HC5.out
      clear HC5
      by_cases c6 : a0 ≤ 57343
      · rw [if_pos c6] at H
        have c6b0 : decide (a0 ≤ 57343) = true := decide_eq_true c6
        clear c6
        (first | rw [c6b0] | (simp only [i64_w, i32_w]; rw [c6b0]) | skip)
        have H' := Aside0.mk H
        clear H
        go_wp2
        go_meet
        case rel => exact ⟨_, (a1), (by first | rfl | (simp; done) | (simp [*]; done)), H', ⟨by first | omega | exact Nat.le_refl _⟩, by repeat (first | exact Drawn0.refl _ | apply Drawn0.step)⟩
      · rw [if_neg c6] at H
        have c6b0 : decide (a0 ≤ 57343) = false := decide_eq_false c6
        clear c6
        (first | rw [c6b0] | (simp only [i64_w, i32_w]; rw [c6b0]) | skip)
        have H' := Aside0.mk H
        clear H
        go_wp2
        go_meet
        case rel => exact ⟨_, (false), (by first | rfl | (simp; done) | (simp [*]; done)), H', ⟨by first | omega | exact Nat.le_refl _⟩, by repeat (first | exact Drawn0.refl _ | apply Drawn0.step)⟩
     case rest =>
      clear HC5
      try clear c3
      try clear c3b0
      try clear c4
      try clear c4b0
      obtain ⟨kq, x12_4, rfl, HA, HJ4, ⟨mc4, rfl⟩⟩ := hcut
      cases kq with
      | zero => exact absurd HA.out (by simp [goboref3_place.j0])
      | succ kj4 =>
       have H := HA.out
       clear HA
       simp only [goboref3_place.j0] at H
       by_cases c7 : x12_4 = true
       · subst c7
         have H1 : (some 55296) = some r := by rw [if_pos rfl] at H; exact H
         clear H
         have H := H1
         clear H1
         obtain rfl := Option.some.inj H
         go_wp2
         go_ret
         exact ⟨by first | rfl | (simp; done) | (simp [*]; done), by repeat (first | exact Drawn0.refl _ | apply Drawn0.step)⟩
       · replace c7 := Bool.eq_false_iff.mpr c7
         subst c7
         have H1 : (if a0 ≤ 57343 then (some 55295) else (if a0 > 1114111 then (if a1 = true then (some 1112064) else (some 1112063)) else (some (wrap64 (a0 - 2048))))) = some r := by rw [if_neg (show ¬ (false = true) by decide)] at H; exact H
         clear H
         have H := H1
         clear H1
         by_cases c8 : a0 ≤ 57343
         · rw [if_pos c8] at H
           have c8b0 : decide (a0 ≤ 57343) = true := decide_eq_true c8
           clear c8
           obtain rfl := Option.some.inj H
           go_wp2
           go_ret
           exact ⟨by first | rfl | (simp; done) | (simp [*]; done), by repeat (first | exact Drawn0.refl _ | apply Drawn0.step)⟩
         · rw [if_neg c8] at H
           have c8b0 : decide (a0 ≤ 57343) = false := decide_eq_false c8
           clear c8
           by_cases c9 : a0 > 1114111
           · rw [if_pos c9] at H
             have c9b0 : decide (1114111 < a0) = true := decide_eq_true c9
             clear c9
             by_cases c10 : a1 = true
             · subst c10
               have H1 : (some 1112064) = some r := by rw [if_pos rfl] at H; exact H
               clear H
               have H := H1
               clear H1
               obtain rfl := Option.some.inj H
               go_wp2
               go_ret
               exact ⟨by first | rfl | (simp; done) | (simp [*]; done), by repeat (first | exact Drawn0.refl _ | apply Drawn0.step)⟩
             · replace c10 := Bool.eq_false_iff.mpr c10
               subst c10
               have H1 : (some 1112063) = some r := by rw [if_neg (show ¬ (false = true) by decide)] at H; exact H
               clear H
               have H := H1
               clear H1
               obtain rfl := Option.some.inj H
               go_wp2
               go_ret
               exact ⟨by first | rfl | (simp; done) | (simp [*]; done), by repeat (first | exact Drawn0.refl _ | apply Drawn0.step)⟩
           · rw [if_neg c9] at H
             have c9b0 : decide (1114111 < a0) = false := decide_eq_false c9
             clear c9
             obtain rfl := Option.some.inj H
             go_wp2
             go_ret
             exact ⟨by first | rfl | (simp; done) | (simp [*]; done), by repeat (first | exact Drawn0.refl _ | apply Drawn0.step)⟩
end Go.Proofs.YthdfmbmbjpmlaaaGreatDoor.Rn
end
section
namespace Go.Proofs.YthdfmbmbjpmlaaaGreatDoor.Rn
open Go.RowKit Go.Proofs.YthdfmbmbjpmlaaaGreatDoorW.PrintWords Go.Proofs.YthdfmbmbjpmlaaaGreatDoorW.PrintLast Go.Proofs.YthdfmbmbjpmlaaaGreatDoorW.PrintMore
attribute [local go_sem] max2_int min2_int max_two min_two max_three min_three max_four min_four   -- for this text's walks alone
set_option linter.unusedVariables false
set_option linter.unusedSimpArgs false
mutual
def goboref3_cuts.l0 : Nat → List (S114) → List Int → Int → Option (List Int)
 | 0, _, _, _ => none
 | k + 1, x0, x3, x4 => if x4 < (wrap64 (2 * (x0.length : Int))) then (if 0 ≤ (wrap64 (Int.tdiv x4 2)) then (if (wrap64 (Int.tdiv x4 2)) < (x0.length : Int) then (if (Int.tmod x4 2) = 1 then (goboref3_cuts.j1 k x0 x3 x4 ((rd_T114 x0 (wrap64 (Int.tdiv x4 2))).f1)) else (goboref3_cuts.j1 k x0 x3 x4 ((rd_T114 x0 (wrap64 (Int.tdiv x4 2))).f0))) else (none)) else (none)) else (some x3)
def goboref3_cuts.j1 : Nat → List (S114) → List Int → Int → Int → Option (List Int)
 | 0, _, _, _, _ => none
 | k + 1, x0, x3, x4, x5 => goboref3_cuts.l1 k x0 x3 x4 x5 0
def goboref3_cuts.l1 : Nat → List (S114) → List Int → Int → Int → Int → Option (List Int)
 | 0, _, _, _, _, _ => none
 | k + 1, x0, x3, x4, x5, x6 => if x6 < (x3.length : Int) then (if 0 ≤ x6 then (if (rd x3 x6) < x5 then (goboref3_cuts.l1 k x0 x3 x4 x5 (wrap64 (x6 + 1))) else (if (rd x3 x6) = x5 then (goboref3_cuts.l0 k x0 x3 (wrap64 (x4 + 1))) else ((some (([] : List Int) : List Int)).bind fun y281 => (if x6 ≤ (x3.length : Int) then ((some (x3.take (x6 : Int).toNat : List Int)).bind fun y284 => (if y281.length + y284.length < 17592186044416 then ((some (y281 ++ y284 : List Int)).bind fun y288 => (if y288.length < 17592186044416 then ((some (y288 ++ [x5] : List Int)).bind fun y291 => ((some (x3.drop (x6 : Int).toNat : List Int)).bind fun y294 => (if y291.length + y294.length < 17592186044416 then (goboref3_cuts.l0 k x0 (y291 ++ y294) (wrap64 (x4 + 1))) else (none)))) else (none))) else (none))) else (none))))) else (none)) else ((some (([] : List Int) : List Int)).bind fun y301 => (if 0 ≤ x6 then (if x6 ≤ (x3.length : Int) then ((some (x3.take (x6 : Int).toNat : List Int)).bind fun y304 => (if y301.length + y304.length < 17592186044416 then ((some (y301 ++ y304 : List Int)).bind fun y308 => (if y308.length < 17592186044416 then ((some (y308 ++ [x5] : List Int)).bind fun y311 => ((some (x3.drop (x6 : Int).toNat : List Int)).bind fun y314 => (if y311.length + y314.length < 17592186044416 then (goboref3_cuts.l0 k x0 (y311 ++ y314) (wrap64 (x4 + 1))) else (none)))) else (none))) else (none))) else (none)) else (none)))
end
def goboref3_cuts.f (k : Nat) (l0 : List (S114)) : Option (List Int) := goboref3_cuts.l0 k l0 ([] : List Int) 0
theorem goboref3_cuts.mono_l : ∀ k, (∀ y0 y1 y2, LeO (goboref3_cuts.l0 k y0 y1 y2) (goboref3_cuts.l0 (k + 1) y0 y1 y2)) ∧ (∀ y0 y1 y2 y3, LeO (goboref3_cuts.j1 k y0 y1 y2 y3) (goboref3_cuts.j1 (k + 1) y0 y1 y2 y3)) ∧ (∀ y0 y1 y2 y3 y4, LeO (goboref3_cuts.l1 k y0 y1 y2 y3 y4) (goboref3_cuts.l1 (k + 1) y0 y1 y2 y3 y4))
 | 0 => ⟨fun _ _ _ r h => by simp [goboref3_cuts.l0] at h, fun _ _ _ _ r h => by simp [goboref3_cuts.j1] at h, fun _ _ _ _ _ r h => by simp [goboref3_cuts.l1] at h⟩
 | k + 1 => by
  obtain ⟨ih0, ih1, ih2⟩ := goboref3_cuts.mono_l k
  refine ⟨?_, ?_, ?_⟩
  · intro y0 y1 y2
    unfold goboref3_cuts.l0
    repeat' first
    | (with_reducible exact ih0 _ _ _)
    | (with_reducible exact ih1 _ _ _ _)
    | (with_reducible exact ih2 _ _ _ _ _)
    | (with_reducible exact LeO.refl _)
    | (with_reducible exact LeO.none _)
    | (with_reducible refine LeO.ite ?_ ?_)
    | (with_reducible refine LeO.bind ?_ (fun _ => ?_))
    | exact ih0 _ _ _
    | exact ih1 _ _ _ _
    | exact ih2 _ _ _ _ _
    | exact LeO.none _
    | refine LeO.ite ?_ ?_
    | refine LeO.bind ?_ (fun _ => ?_)
  · intro y0 y1 y2 y3
    unfold goboref3_cuts.j1
    repeat' first
    | (with_reducible exact ih0 _ _ _)
    | (with_reducible exact ih1 _ _ _ _)
    | (with_reducible exact ih2 _ _ _ _ _)
    | (with_reducible exact LeO.refl _)
    | (with_reducible exact LeO.none _)
    | (with_reducible refine LeO.ite ?_ ?_)
    | (with_reducible refine LeO.bind ?_ (fun _ => ?_))
    | exact ih0 _ _ _
    | exact ih1 _ _ _ _
    | exact ih2 _ _ _ _ _
    | exact LeO.none _
    | refine LeO.ite ?_ ?_
    | refine LeO.bind ?_ (fun _ => ?_)
  · intro y0 y1 y2 y3 y4
    unfold goboref3_cuts.l1
    repeat' first
    | (with_reducible exact ih0 _ _ _)
    | (with_reducible exact ih1 _ _ _ _)
    | (with_reducible exact ih2 _ _ _ _ _)
    | (with_reducible exact LeO.refl _)
    | (with_reducible exact LeO.none _)
    | (with_reducible refine LeO.ite ?_ ?_)
    | (with_reducible refine LeO.bind ?_ (fun _ => ?_))
    | exact ih0 _ _ _
    | exact ih1 _ _ _ _
    | exact ih2 _ _ _ _ _
    | exact LeO.none _
    | refine LeO.ite ?_ ?_
    | refine LeO.bind ?_ (fun _ => ?_)
theorem goboref3_cuts.mono : ∀ a0 k, LeO (goboref3_cuts.f k a0) (goboref3_cuts.f (k + 1) a0) := by
 intro a0 k
 obtain ⟨ih0, ih1, ih2⟩ := goboref3_cuts.mono_l k
 unfold goboref3_cuts.f
 repeat' first
  | (with_reducible exact ih0 _ _ _)
  | (with_reducible exact ih1 _ _ _ _)
  | (with_reducible exact ih2 _ _ _ _ _)
  | (with_reducible exact LeO.refl _)
  | (with_reducible exact LeO.none _)
  | (with_reducible refine LeO.ite ?_ ?_)
  | (with_reducible refine LeO.bind ?_ (fun _ => ?_))
  | exact ih0 _ _ _
  | exact ih1 _ _ _ _
  | exact ih2 _ _ _ _ _
  | exact LeO.none _
  | refine LeO.ite ?_ ?_
  | refine LeO.bind ?_ (fun _ => ?_)
def goboref3_cuts.T13 : Bool × List (List Nat × List Nat) := (true, [([], []), ([], []), ([1], [1]), ([0, 2], [0, 2]), ([], []), ([], []), ([4, 5], [4, 5]), ([3, 6, 3], [3, 6]), ([7, 7, 0, 1, 2, 3, 4, 5, 6, 7], [4, 7])])
def goboref3_cuts.B13 : List Nat := [0, 0, 2, 7, 0, 0, 48, 127, 255]
theorem goboref3_cuts.tab13 : rtab .any (opsOf Tryz.f92 13) = goboref3_cuts.T13 := by kernel_rfl
theorem goboref3_cuts.bits13 : waitsOk goboref3_cuts.T13.2 goboref3_cuts.B13 = true := by kernel_rfl
set_option maxHeartbeats 8000000 in
set_option maxRecDepth 100000 in
theorem goboref3_cuts.calls (k : Nat) (A0 : Option Addr) (c0 : Nat) (l0 : List (S114)) (r : List Int) (w : World) (hr0 : Kd.C k114 w A0 l0.length l0) (hc0 : l0.length ≤ c0) (h : goboref3_cuts.f k l0 = some r) :
 Calls Tryz.prog 92 #[.slice A0 l0.length c0] w fun e w' => ∃ v0_ : Value, e = .returned (v0_) ∧ Kd.R (Kd.int .i64) 3 w' w.heap.size (fun _ => True) v0_ r ∧ Below w.heap.size w w' := by
 have HR0 := Aside0.mk hr0
 have HC0 := Aside0.mk hc0
 clear hr0 hc0
 have HB := Aside0.mk (Below.refl w.heap.size w)
 have H : (goboref3_cuts.l0 k l0 ([] : List Int) 0) = some r := h
 clear h
 have H' := Aside0.mk H
 clear H
 go_enter Tryz.func92, Tryz.ntmps92
 go_wp2
 go_loopg [3, 4] k (fun kq v3 v4 w' => ∃ (x3_1 : List Int) (x4_1 : Int), v4 = .int .i64 x4_1 ∧ Aside0 (goboref3_cuts.l0 kq l0 x3_1 x4_1 = some r) ∧ Aside0 (kq ≤ k) ∧ Aside0 (Kd.R (Kd.int .i64) 3 w' w.heap.size (fun _ => True) v3 x3_1) ∧ Aside0 (Below w.heap.size w w'))
 case atStart => exact ⟨(([] : List Int)), (0), (by first | rfl | (simp; done) | (simp [*]; done)), H', ⟨Nat.le_refl _⟩, ⟨by first | exact Kd.R_nil _ _ _ _ _ | exact Kd.N_nil _ _ _ _ _ | exact Kd.V_nil _ _ _ _ _ | exact Kd.Q_nil _ _ _ _ _ | exact Kd.S_nil _ _ _ _ _⟩, ⟨by repeat (first | (with_reducible first | exact HB.out | apply below_alloc | apply pw_below_drewN | apply below_drew1) | exact HB.out)⟩⟩
 case round =>
  clear H'
  obtain ⟨x3_1, x4_1, rfl, HA, HK1, HO_3, HB⟩ := hrel
  cases gk with
  | zero => exact absurd HA.out (by simp [goboref3_cuts.l0])
  | succ k1 =>
   have H := HA.out
   clear HA
   simp only [goboref3_cuts.l0] at H
   by_cases c2 : x4_1 < (wrap64 (2 * (l0.length : Int)))
   · rw [if_pos c2] at H
     have c2b0 : decide (x4_1 < (wrap64 (2 * (l0.length : Int)))) = true := decide_eq_true c2
     clear c2
     obtain ⟨ji3, hji3⟩ : ∃ j_ : Int, (wrap64 (Int.tdiv x4_1 2)) = j_ := ⟨_, rfl⟩
     replace H : (if 0 ≤ (ji3) then (if (ji3) < (l0.length : Int) then (if (Int.tmod x4_1 2) = 1 then (goboref3_cuts.j1 k1 l0 x3_1 x4_1 ((rd_T114 l0 (ji3)).f1)) else (goboref3_cuts.j1 k1 l0 x3_1 x4_1 ((rd_T114 l0 (ji3)).f0))) else (none)) else (none)) = some r := by first | (rw [hji3] at H; exact H) | (simp only [hji3] at H ⊢; exact H)
     have hji3w : (IntKind.i64.wrap (Int.tdiv x4_1 2)) = ji3 := (i64_w _).trans hji3
     by_cases c4 : 0 ≤ (ji3)
     · rw [if_pos c4] at H
       have c4b0 : decide (0 ≤ (ji3)) = true := decide_eq_true c4
       clear c4
       by_cases c5 : (ji3) < (l0.length : Int)
       · rw [if_pos c5] at H
         have c5b0 : decide ((ji3) < (l0.length : Int)) = true := decide_eq_true c5
         clear c5
         have HC6 := Aside0.mk H
         clear H
         have p277 : 0 ≤ ((ji3) : Int) := of_decide_eq_true (by first | (with_reducible assumption) | assumption)
         have q277 : (ji3) < (l0.length : Int) := of_decide_eq_true (by first | (with_reducible assumption) | assumption)
         obtain ⟨ad277, e277, hx277_0, hx277_1⟩ := at_T114 HR0.out (ji3) p277 q277
         cases e277
         replace hx277_0 := (HB.out.cell (World.block_lt_of_cell? w _ hx277_0)).trans hx277_0
         replace hx277_1 := (HB.out.cell (World.block_lt_of_cell? w _ hx277_1)).trans hx277_1
         replace p277 := eq_true p277
         replace q277 := eq_true q277
         go_upto_if 23 with (fail)
         go_cut [5] (fun v5 wc => ∃ (kq : Nat) (x5_5 : Int), v5 = .int .i64 x5_5 ∧ Aside0 (goboref3_cuts.j1 kq l0 x3_1 x4_1 x5_5 = some r) ∧ Aside0 (kq ≤ k1) ∧ Aside0 (Kd.R (Kd.int .i64) 3 wc w.heap.size (fun _ => True) u3 x3_1) ∧ Aside0 (Below w.heap.size w wc))
         case first =>
          have H := HC6.out
          clear HC6
          by_cases c7 : (Int.tmod x4_1 2) = 1
          · rw [if_pos c7] at H
            have c7b0 : ((Int.tmod x4_1 2) == 1) = true := beq_iff_eq.mpr c7
            have c7b1 : ((Int.tmod x4_1 2) != 1) = false := bne_eq_false_iff_eq.mpr c7
            clear c7
            (first | rw [c7b0] | (simp only [i64_w, i32_w]; rw [c7b0]) | skip)
            have H' := Aside0.mk H
            clear H
            have p278 : 0 ≤ ((ji3) : Int) := of_decide_eq_true (by first | (with_reducible assumption) | assumption)
            have q278 : (ji3) < (l0.length : Int) := of_decide_eq_true (by first | (with_reducible assumption) | assumption)
            obtain ⟨ad278, e278, hx278_0, hx278_1⟩ := at_T114 HR0.out (ji3) p278 q278
            obtain rfl : ad277 = ad278 := (by injection e278)
            replace hx278_0 := (HB.out.cell (World.block_lt_of_cell? w _ hx278_0)).trans hx278_0
            replace hx278_1 := (HB.out.cell (World.block_lt_of_cell? w _ hx278_1)).trans hx278_1
            replace p278 := eq_true p278
            replace q278 := eq_true q278
            go_wp2
            go_meet
            case rel => exact ⟨_, ((rd_T114 l0 (ji3)).f1), (by first | rfl | (simp; done) | (simp only [← hji3] <;> (first | rfl | simp)) | (simp [*]; done)), H', ⟨by have := HK1.out; first | omega | exact Nat.le_refl _⟩, ⟨by (with_reducible repeat (first | apply Kd.R_alloc | apply Kd.R_drewN | apply Kd.R_drew)); exact HO_3.out⟩, ⟨by repeat (first | (with_reducible first | exact HB.out | apply below_alloc | apply pw_below_drewN | apply below_drew1) | exact HB.out)⟩⟩
          · rw [if_neg c7] at H
            have c7b0 : ((Int.tmod x4_1 2) == 1) = false := beq_eq_false_iff_ne.mpr c7
            have c7b1 : ((Int.tmod x4_1 2) != 1) = true := bne_iff_ne.mpr c7
            (first | rw [c7b0] | (simp only [i64_w, i32_w]; rw [c7b0]) | skip)
            have H' := Aside0.mk H
            clear H
            go_wp2
            go_meet
            case rel => exact ⟨_, ((rd_T114 l0 (ji3)).f0), (by first | rfl | (simp; done) | (simp only [← hji3] <;> (first | rfl | simp)) | (simp [*]; done)), H', ⟨by have := HK1.out; first | omega | exact Nat.le_refl _⟩, ⟨by (with_reducible repeat (first | apply Kd.R_alloc | apply Kd.R_drewN | apply Kd.R_drew)); exact HO_3.out⟩, ⟨by repeat (first | (with_reducible first | exact HB.out | apply below_alloc | apply pw_below_drewN | apply below_drew1) | exact HB.out)⟩⟩
         case rest =>
          clear HC6
          try clear c2
          try clear c2b0
          try clear c4
          try clear c4b0
          try clear c5
          try clear c5b0
          try clear hx277_0
          try clear hx277_1
          try clear p277
          try clear q277
          obtain ⟨kq, x5_5, rfl, HA, HJ5, HO_3, HB⟩ := hcut
          cases kq with
          | zero => exact absurd HA.out (by simp [goboref3_cuts.j1])
          | succ kj5 =>
           have H := HA.out
           clear HA
           simp only [goboref3_cuts.j1] at H
           have H' := Aside0.mk H
           clear H
           go_wp2
           go_loopg [6] kj5 (fun kq v6 w' => ∃ (x6_3 : Int), v6 = .int .i64 x6_3 ∧ Aside0 (goboref3_cuts.l1 kq l0 x3_1 x4_1 x5_5 x6_3 = some r) ∧ Aside0 (kq ≤ kj5) ∧ Aside0 (Kd.R (Kd.int .i64) 3 w' w.heap.size (fun _ => True) u3 x3_1) ∧ Aside0 (Below w.heap.size w w'))
           case atStart => exact ⟨(0), (by first | rfl | (simp; done) | (simp [*]; done)), H', ⟨Nat.le_refl _⟩, ⟨by (with_reducible repeat (first | apply Kd.R_alloc | apply Kd.R_drewN | apply Kd.R_drew)); exact HO_3.out⟩, ⟨by repeat (first | (with_reducible first | exact HB.out | apply below_alloc | apply pw_below_drewN | apply below_drew1) | exact HB.out)⟩⟩
           case round =>
            clear H'
            try clear c2
            try clear c2b0
            try clear c4
            try clear c4b0
            try clear c5
            try clear c5b0
            try clear hx277_0
            try clear hx277_1
            try clear p277
            try clear q277
            obtain ⟨x6_3, rfl, HA, HK3, HO_3, HB⟩ := hrel
            cases gk with
            | zero => exact absurd HA.out (by simp [goboref3_cuts.l1])
            | succ k3 =>
             have H := HA.out
             clear HA
             simp only [goboref3_cuts.l1] at H
             by_cases c8 : x6_3 < (x3_1.length : Int)
             · rw [if_pos c8] at H
               have c8b0 : decide (x6_3 < (x3_1.length : Int)) = true := decide_eq_true c8
               clear c8
               by_cases c9 : 0 ≤ x6_3
               · rw [if_pos c9] at H
                 have c9b0 : decide (0 ≤ x6_3) = true := decide_eq_true c9
                 clear c9
                 by_cases c10 : (rd x3_1 x6_3) < x5_5
                 · rw [if_pos c10] at H
                   have c10b0 : decide ((rd x3_1 x6_3) < x5_5) = true := decide_eq_true c10
                   clear c10
                   have H' := Aside0.mk H
                   clear H
                   obtain ⟨Ao11, co11, eo11⟩ := Kd.R_slice HO_3.out
                   subst eo11
                   have p279 : 0 ≤ (x6_3 : Int) := of_decide_eq_true (by first | (with_reducible assumption) | assumption)
                   have q279 : x6_3 < (x3_1.length : Int) := of_decide_eq_true (by first | (with_reducible assumption) | assumption)
                   obtain ⟨ad279, e279, hx279_0⟩ := Kd.at_int (Kd.R_reads' HO_3.out).2.2 x6_3 p279 q279
                   cases e279
                   replace p279 := eq_true p279
                   replace q279 := eq_true q279
                   go_wp2
                   go_roundg k3
                   case measure => have := HK1.out; have := HJ5.out; have := HK3.out; omega
                   case rel => exact ⟨(wrap64 (x6_3 + 1)), (by first | rfl | (simp; done) | (simp [*]; done)), H', ⟨by have := HK1.out; have := HJ5.out; have := HK3.out; omega⟩, ⟨by (with_reducible repeat (first | apply Kd.R_alloc | apply Kd.R_drewN | apply Kd.R_drew)); exact HO_3.out⟩, ⟨by repeat (first | (with_reducible first | exact HB.out | apply below_alloc | apply pw_below_drewN | apply below_drew1) | exact HB.out)⟩⟩
                 · rw [if_neg c10] at H
                   have c10b0 : decide ((rd x3_1 x6_3) < x5_5) = false := decide_eq_false c10
                   clear c10
                   by_cases c12 : (rd x3_1 x6_3) = x5_5
                   · rw [if_pos c12] at H
                     have c12b0 : ((rd x3_1 x6_3) == x5_5) = true := beq_iff_eq.mpr c12
                     have c12b1 : ((rd x3_1 x6_3) != x5_5) = false := bne_eq_false_iff_eq.mpr c12
                     clear c12
                     have H' := Aside0.mk H
                     clear H
                     obtain ⟨Ao13, co13, eo13⟩ := Kd.R_slice HO_3.out
                     subst eo13
                     have p279 : 0 ≤ (x6_3 : Int) := of_decide_eq_true (by first | (with_reducible assumption) | assumption)
                     have q279 : x6_3 < (x3_1.length : Int) := of_decide_eq_true (by first | (with_reducible assumption) | assumption)
                     obtain ⟨ad279, e279, hx279_0⟩ := Kd.at_int (Kd.R_reads' HO_3.out).2.2 x6_3 p279 q279
                     cases e279
                     replace p279 := eq_true p279
                     replace q279 := eq_true q279
                     have p280 : 0 ≤ (x6_3 : Int) := of_decide_eq_true (by first | (with_reducible assumption) | assumption)
                     have q280 : x6_3 < (x3_1.length : Int) := of_decide_eq_true (by first | (with_reducible assumption) | assumption)
                     obtain ⟨ad280, e280, hx280_0⟩ := Kd.at_int (Kd.R_reads' HO_3.out).2.2 x6_3 p280 q280
                     obtain rfl : ad279 = ad280 := (by injection e280)
                     replace p280 := eq_true p280
                     replace q280 := eq_true q280
                     go_wp2
                     go_roundg k3
                     case measure => have := HK1.out; have := HJ5.out; have := HK3.out; omega
                     case rel => exact ⟨(x3_1), (wrap64 (x4_1 + 1)), (by first | rfl | (simp; done) | (simp [*]; done)), H', ⟨by have := HK1.out; have := HJ5.out; have := HK3.out; omega⟩, ⟨by (with_reducible repeat (first | apply Kd.R_alloc | apply Kd.R_drewN | apply Kd.R_drew)); exact HO_3.out⟩, ⟨by repeat (first | (with_reducible first | exact HB.out | apply below_alloc | apply pw_below_drewN | apply below_drew1) | exact HB.out)⟩⟩
                   · rw [if_neg c12] at H
                     have c12b0 : ((rd x3_1 x6_3) == x5_5) = false := beq_eq_false_iff_ne.mpr c12
                     have c12b1 : ((rd x3_1 x6_3) != x5_5) = true := bne_iff_ne.mpr c12
                     obtain ⟨y281, hy281⟩ : ∃ y_ : List Int, y_ = (([] : List Int)) := ⟨_, rfl⟩
                     replace H : (if x6_3 ≤ (x3_1.length : Int) then ((some (x3_1.take (x6_3 : Int).toNat : List Int)).bind fun y284 => (if y281.length + y284.length < 17592186044416 then ((some (y281 ++ y284 : List Int)).bind fun y288 => (if y288.length < 17592186044416 then ((some (y288 ++ [x5_5] : List Int)).bind fun y291 => ((some (x3_1.drop (x6_3 : Int).toNat : List Int)).bind fun y294 => (if y291.length + y294.length < 17592186044416 then (goboref3_cuts.l0 k3 l0 (y291 ++ y294) (wrap64 (x4_1 + 1))) else (none)))) else (none))) else (none))) else (none)) = some r := by first | (rw [hy281]; with_reducible exact H) | (have H2_ := (Option.bind_some _ _).symm.trans H; rw [hy281]; with_reducible exact H2_) | (have H2_ := (Option.bind_some _ _).symm.trans H; with_reducible exact H2_) | with_reducible exact H | (rw [hy281]; exact H) | exact H
                     have Ny281 := Aside0.mk hy281
                     clear hy281
                     have c14b0 := eq_true (of_decide_eq_true (by first | (with_reducible assumption) | assumption) : 0 ≤ x6_3)
                     by_cases c15 : x6_3 ≤ (x3_1.length : Int)
                     · rw [if_pos c15] at H
                       have c15b0 := eq_true c15
                       have c15b1 : decide (x6_3 ≤ (x3_1.length : Int)) = true := decide_eq_true c15
                       clear c15
                       obtain ⟨y284, hy284⟩ : ∃ y_ : List Int, y_ = (x3_1.take (x6_3 : Int).toNat) := ⟨_, rfl⟩
                       replace H : (if y281.length + y284.length < 17592186044416 then ((some (y281 ++ y284 : List Int)).bind fun y288 => (if y288.length < 17592186044416 then ((some (y288 ++ [x5_5] : List Int)).bind fun y291 => ((some (x3_1.drop (x6_3 : Int).toNat : List Int)).bind fun y294 => (if y291.length + y294.length < 17592186044416 then (goboref3_cuts.l0 k3 l0 (y291 ++ y294) (wrap64 (x4_1 + 1))) else (none)))) else (none))) else (none)) = some r := by first | (rw [hy284]; with_reducible exact H) | (have H2_ := (Option.bind_some _ _).symm.trans H; rw [hy284]; with_reducible exact H2_) | (have H2_ := (Option.bind_some _ _).symm.trans H; with_reducible exact H2_) | with_reducible exact H | (rw [hy284]; exact H) | exact H
                       have Ny284 := Aside0.mk hy284
                       clear hy284
                       by_cases c16 : y281.length + y284.length < 17592186044416
                       · rw [if_pos c16] at H
                         have LMc16 := Aside0.mk c16
                         clear c16
                         obtain ⟨y288, hy288⟩ : ∃ y_ : List Int, y_ = (y281 ++ y284) := ⟨_, rfl⟩
                         replace H : (if y288.length < 17592186044416 then ((some (y288 ++ [x5_5] : List Int)).bind fun y291 => ((some (x3_1.drop (x6_3 : Int).toNat : List Int)).bind fun y294 => (if y291.length + y294.length < 17592186044416 then (goboref3_cuts.l0 k3 l0 (y291 ++ y294) (wrap64 (x4_1 + 1))) else (none)))) else (none)) = some r := by first | (rw [hy288]; with_reducible exact H) | (have H2_ := (Option.bind_some _ _).symm.trans H; rw [hy288]; with_reducible exact H2_) | (have H2_ := (Option.bind_some _ _).symm.trans H; with_reducible exact H2_) | with_reducible exact H | (rw [hy288]; exact H) | exact H
                         have Ny288 := Aside0.mk hy288
                         clear hy288
                         by_cases c17 : y288.length < 17592186044416
                         · rw [if_pos c17] at H
                           have LMc17 := Aside0.mk c17
                           clear c17
                           obtain ⟨y291, hy291⟩ : ∃ y_ : List Int, y_ = (y288 ++ [x5_5]) := ⟨_, rfl⟩
                           replace H : ((some (x3_1.drop (x6_3 : Int).toNat : List Int)).bind fun y294 => (if y291.length + y294.length < 17592186044416 then (goboref3_cuts.l0 k3 l0 (y291 ++ y294) (wrap64 (x4_1 + 1))) else (none))) = some r := by first | (rw [hy291]; with_reducible exact H) | (have H2_ := (Option.bind_some _ _).symm.trans H; rw [hy291]; with_reducible exact H2_) | (have H2_ := (Option.bind_some _ _).symm.trans H; with_reducible exact H2_) | with_reducible exact H | (rw [hy291]; exact H) | exact H
                           have Ny291 := Aside0.mk hy291
                           clear hy291
                           have c18b0 := eq_true (of_decide_eq_true (by first | (with_reducible assumption) | assumption) : 0 ≤ x6_3)
                           have c19b0 := eq_true (of_decide_eq_true (by first | (with_reducible assumption) | assumption) : x6_3 ≤ (x3_1.length : Int))
                           obtain ⟨y294, hy294⟩ : ∃ y_ : List Int, y_ = (x3_1.drop (x6_3 : Int).toNat) := ⟨_, rfl⟩
                           replace H : (if y291.length + y294.length < 17592186044416 then (goboref3_cuts.l0 k3 l0 (y291 ++ y294) (wrap64 (x4_1 + 1))) else (none)) = some r := by first | (rw [hy294]; with_reducible exact H) | (have H2_ := (Option.bind_some _ _).symm.trans H; rw [hy294]; with_reducible exact H2_) | (have H2_ := (Option.bind_some _ _).symm.trans H; with_reducible exact H2_) | with_reducible exact H | (rw [hy294]; exact H) | exact H
                           have Ny294 := Aside0.mk hy294
                           clear hy294
                           by_cases c20 : y291.length + y294.length < 17592186044416
                           · rw [if_pos c20] at H
                             have LMc20 := Aside0.mk c20
                             clear c20
                             obtain ⟨y298, hy298⟩ : ∃ y_ : List Int, y_ = (y291 ++ y294) := ⟨_, rfl⟩
                             replace H : (goboref3_cuts.l0 k3 l0 y298 (wrap64 (x4_1 + 1))) = some r := by first | (rw [hy298]; with_reducible exact H) | (have H2_ := (Option.bind_some _ _).symm.trans H; rw [hy298]; with_reducible exact H2_) | (have H2_ := (Option.bind_some _ _).symm.trans H; with_reducible exact H2_) | with_reducible exact H | (rw [hy298]; exact H) | exact H
                             have Ny298 := Aside0.mk hy298
                             clear hy298
                             have H' := Aside0.mk H
                             clear H
                             obtain ⟨Ao21, co21, eo21⟩ := Kd.R_slice HO_3.out
                             subst eo21
                             have p279 : 0 ≤ (x6_3 : Int) := of_decide_eq_true (by first | (with_reducible assumption) | assumption)
                             have q279 : x6_3 < (x3_1.length : Int) := of_decide_eq_true (by first | (with_reducible assumption) | assumption)
                             obtain ⟨ad279, e279, hx279_0⟩ := Kd.at_int (Kd.R_reads' HO_3.out).2.2 x6_3 p279 q279
                             cases e279
                             replace p279 := eq_true p279
                             replace q279 := eq_true q279
                             have p280 : 0 ≤ (x6_3 : Int) := of_decide_eq_true (by first | (with_reducible assumption) | assumption)
                             have q280 : x6_3 < (x3_1.length : Int) := of_decide_eq_true (by first | (with_reducible assumption) | assumption)
                             obtain ⟨ad280, e280, hx280_0⟩ := Kd.at_int (Kd.R_reads' HO_3.out).2.2 x6_3 p280 q280
                             obtain rfl : ad279 = ad280 := (by injection e280)
                             replace p280 := eq_true p280
                             replace q280 := eq_true q280
                             try go_wp2_with (first | ((with_reducible refine gate_dst (N := 56) rfl ?_); refine Kd.R_lit (Kd.int .i64) _ 3 ?hg (N := 56) ?hd (xs := ([] : List Int)) (inner := []) (ok := fun _ => True) (okp := fun _ => True) ?hr ?hp (fun _ hk => hk) trivial (Below.refl _ _) (Nat.le_refl _) (by simp) ?_; (case hd => rfl); (case hg => rfl); (case hr => first | (go_simp; done) | (go_simp; rfl)); (case hp => exact (Reps.none _ _)); intro v282 w22 ho23 hb hg_ hnew_; clear hg_ hnew_; (first | rw [← Ny281.out] at ho23 | (simp only [Int.reduceToNat] at ho23; rw [← Ny281.out] at ho23)); have n0_ := Aside0.mk (Kd.R_elder' (by (with_reducible repeat (first | apply Kd.R_alloc | apply Kd.R_drewN | apply Kd.R_drew)); exact HO_3.out) (Kd.R_base ho23) hb); have n1_ := Aside0.mk (Kd.R_lower (Kd.R_new' ho23 (Kd.R_lt (by (with_reducible repeat (first | apply Kd.R_alloc | apply Kd.R_drewN | apply Kd.R_drew)); exact HO_3.out))) (below_size (by repeat (first | (with_reducible first | exact HB.out | apply below_alloc | apply pw_below_drewN | apply below_drew1) | exact HB.out)))); have n2_ := Aside0.mk (below_step (by repeat (first | (with_reducible first | exact HB.out | apply below_alloc | apply pw_below_drewN | apply below_drew1) | exact HB.out)) hb); clear HO_3; clear HB; have HO_3 := n0_; have HO283 := n1_; have HB := n2_; clear n0_ n1_ n2_; clear hb ho23; have q24 : (x6_3 : Int) ≤ ((x3_1.length : Int) : Int) := of_decide_eq_true (by first | (with_reducible assumption) | assumption); obtain ⟨i024, hi024, _, hsz24, _⟩ := info_parts info3; have hroom24 : x3_1.length ≤ co21 := (Kd.R_reads' HO_3.out).2.1; have hC24 : Kd.C (Kd.int .i64) _ (some ad279) x3_1.length x3_1 := (Kd.R_reads' HO_3.out).2.2; have hcut24 := cut_to (P := Tryz.prog) 81 3 .i64 Tryz.underlying81 hi024 (some ad279) x3_1.length co21 x6_3 (of_decide_eq_true (by first | (with_reducible assumption) | assumption)) q24 hroom24; have hr24 := Kd.C_take (m := (x6_3 : Int).toNat) hC24 (by omega); have hy24 : y284.length = (x6_3 : Int).toNat := (by rw [Ny284.out, List.length_take]; omega); rw [← Ny284.out] at hr24; rw [← hy24] at hcut24; have HR287 := Aside0.mk hr24; have HC287 := Aside0.mk (show y284.length ≤ co21 from by omega); clear hr24 hC24 hroom24 hi024 hsz24; have KY24 := Aside0.mk hy24; clear hy24; have KL24 := Aside0.mk (show (x6_3 : Int).toNat ≤ x3_1.length from by omega); replace q24 := eq_true q24) | ((with_reducible refine gate_builtin (b := .append) (xs := #[.tmp 56, .tmp 59]) rfl ?_); at_builtin; refine Kd.R_append_rows (Kd.int .i64) (w0 := w) w.heap.size rfl (.tmp 56) (.tmp 59) 81 3 (.int .i64 0) 8 rfl Tryz.underlying81 info3 rfl (by decide) (by omega) v282 y281 y284 _ _ _ (fun k_ => some k_ ≠ (.slice (some ad279) x3_1.length co21 : Value).ownBlock) (fun _ => False) rfl rfl ?aO ?aR (fun _ _ h => h) (fun _ h => h.elim) ?aF ?aB ?aS ?aL ?_; (case aR => repeat (first | exact (by repeat (first | (with_reducible exact HR287.out) | (with_reducible refine Kd.C_alloc ?_ _) | (with_reducible refine Kd.C_drewN ?_ _) | (with_reducible refine Kd.C_drew ?_) | exact HR287.out)) | (with_reducible refine Kd.C_alloc ?_ _) | (with_reducible refine Kd.C_drewN ?_ _) | (with_reducible refine Kd.C_drew ?_))); (case aB => exact (by repeat (first | (with_reducible first | exact HB.out | apply below_alloc | apply pw_below_drewN | apply below_drew1) | exact HB.out))); (case aF => exact (fun k_ hk => Kd.fresh' (Kd.R_lt (by (with_reducible repeat (first | apply Kd.R_alloc | apply Kd.R_drewN | apply Kd.R_drew)); exact HO_3.out)) k_ hk)); (case aO => exact (by (with_reducible repeat (first | apply Kd.R_alloc | apply Kd.R_drewN | apply Kd.R_drew)); exact Kd.R_mono HO283.out (fun _ hk => hk.2))); (case aS => exact (below_size (by repeat (first | (with_reducible first | exact HB.out | apply below_alloc | apply pw_below_drewN | apply below_drew1) | exact HB.out)))); (case aL => have := LMc16.out; omega); intro v289 w25 ho hb hg hat; rw [← Ny288.out] at ho; have n0_ := Aside0.mk (Kd.R_after (ok := (fun _ => True)) (by (with_reducible repeat (first | apply Kd.R_alloc | apply Kd.R_drewN | apply Kd.R_drew)); exact HO_3.out) hg hat); have n1_ := Aside0.mk (hb); have n2_ := Aside0.mk ((show Kd.C (Kd.int .i64) w25 (some ad279) y284.length y284 from by rw [Ny284.out]; exact Kd.C_take (m := (x6_3 : Int).toNat) ((Kd.R_reads' (Kd.R_after (ok := (fun _ => True)) (by (with_reducible repeat (first | apply Kd.R_alloc | apply Kd.R_drewN | apply Kd.R_drew)); exact HO_3.out) hg hat)).2.2) KL24.out)); have n3_ := Aside0.mk (ho); clear HO_3; clear HB; clear HR287; clear HO283; have HO_3 := n0_; have HB := n1_; have HR287 := n2_; have HO290 := n3_; clear n0_ n1_ n2_ n3_; clear ho hb hg hat))
                             have n0_ := Aside0.mk (Kd.R_drew HO_3.out)
                             have n1_ := Aside0.mk (Kd.R_drew HO290.out)
                             have n2_ := Aside0.mk (Kd.C_drew HR287.out)
                             have n3_ := Aside0.mk (below_drew1 HB.out)
                             clear HO_3
                             clear HO290
                             clear HR287
                             clear HB
                             have HO_3 := n0_
                             have HO290 := n1_
                             have HR287 := n2_
                             have HB := n3_
                             clear n0_ n1_ n2_ n3_
                             have q27 : (x6_3 : Int) ≤ ((x3_1.length : Int) : Int) := of_decide_eq_true (by first | (with_reducible assumption) | assumption)
                             obtain ⟨i027, hi027, _, hsz27, _⟩ := info_parts info3
                             have hroom27 : x3_1.length ≤ co21 := (Kd.R_reads' HO_3.out).2.1
                             have hC27 : Kd.C (Kd.int .i64) _ (some ad279) x3_1.length x3_1 := (Kd.R_reads' HO_3.out).2.2
                             have q027 : (0 : Int) ≤ (x6_3 : Int) := of_decide_eq_true (by first | (with_reducible assumption) | assumption)
                             have hcut27 := cut_from (P := Tryz.prog) 81 3 .i64 Tryz.underlying81 hi027 1 hsz27 (some ad279) x3_1.length co21 x6_3 q027 q27
                             have hr27 := Kd.C_drop (m := (x6_3 : Int).toNat) (c := co21) hC27 (by omega) hroom27
                             obtain ⟨A27, hA27⟩ : ∃ A1, A1 = (if co21 = (x6_3 : Int).toNat then (some ad279) else ((some ad279) : Option Addr).map (·.add ((x6_3 : Int).toNat * 1))) := ⟨_, rfl⟩
                             obtain ⟨c27, hc27⟩ : ∃ c1, c1 = co21 - (x6_3 : Int).toNat := ⟨_, rfl⟩
                             have hy27 : y294.length = x3_1.length - (x6_3 : Int).toNat := (by rw [Ny294.out, List.length_drop] <;> omega)
                             rw [show (x3_1).drop (x6_3 : Int).toNat = y294 from Ny294.out.symm] at hr27
                             replace hr27 : Kd.C (Kd.int .i64) _ A27 y294.length y294 := (by rw [hA27]; exact hr27)
                             rw [← hy27, ← hA27, ← hc27] at hcut27
                             have HR297 := Aside0.mk hr27
                             have HC297 := Aside0.mk (show y294.length ≤ c27 from by rw [hy27, hc27]; exact Nat.sub_le_sub_right hroom27 _)
                             clear hr27 hC27 hroom27 hi027 hsz27 hc27
                             have KY27 := Aside0.mk hy27
                             have KA27 := Aside0.mk hA27
                             clear hy27 hA27
                             have KL27 := Aside0.mk (show (x6_3 : Int).toNat ≤ x3_1.length from by omega)
                             replace q27 := eq_true q27
                             refine start_ (n := 9) (S := fun w' => True) (ds := []) #[false, false, false, false, false, false, false, false, false] (by kernel_rfl) rfl rfl trivial (fun hHeld => ?_); refine with_tabW goboref3_cuts.tab13 goboref3_cuts.bits13 (fun HT_ HW_ => ?_)
                             generalize w25.drew = w26 at HO_3 HO290 HR287 HB HR297 hHeld ⊢
                             refine pure_ (i := 0) (N := some 61) (v := ?_) (a' := ?_) #[true, false, false, false, false, false, false, false, false] rfl rfl (any_of HT_.out (by kernel_rfl)) (fun _ _ _ h => h) (Or.inl ⟨by rfl, ?_⟩) ?_ ?_
                             rotate_left
                             · intro w'
                               go_simp
                               with_reducible rfl
                             rotate_left
                             · simp only [Act.put, List.setIfInBounds_toArray, List.set_cons_zero, List.set_cons_succ, i64_w, i32_w]
                               rfl
                             refine pure_ (i := 1) (N := some 62) (v := ?_) (a' := ?_) #[true, true, false, false, false, false, false, false, false] rfl rfl (any_of HT_.out (by kernel_rfl)) (fun _ _ _ h => h) (Or.inl ⟨by rfl, ?_⟩) ?_ ?_
                             rotate_left
                             · intro w'
                               go_simp
                               with_reducible rfl
                             rotate_left
                             · simp only [Act.put, List.setIfInBounds_toArray, List.set_cons_zero, List.set_cons_succ, i64_w, i32_w]
                               rfl
                             refine pure_ (i := 4) (N := some 65) (v := ?_) (a' := ?_) #[true, true, false, false, true, false, false, false, false] rfl rfl (any_of HT_.out (by kernel_rfl)) (fun _ _ _ h => h) (Or.inl ⟨by rfl, ?_⟩) ?_ ?_
                             rotate_left
                             · intro w'
                               go_simp
                               with_reducible rfl
                             rotate_left
                             · simp only [Act.put, List.setIfInBounds_toArray, List.set_cons_zero, List.set_cons_succ, i64_w, i32_w]
                               rfl
                             refine pure_ (i := 5) (N := some 66) (v := ?_) (a' := ?_) #[true, true, false, false, true, true, false, false, false] rfl rfl (any_of HT_.out (by kernel_rfl)) (fun _ _ _ h => h) (Or.inl ⟨by rfl, ?_⟩) ?_ ?_
                             rotate_left
                             · intro w'
                               go_simp
                               with_reducible rfl
                             rotate_left
                             · simp only [Act.put, List.setIfInBounds_toArray, List.set_cons_zero, List.set_cons_succ, i64_w, i32_w]
                               rfl
                             refine pure_ (i := 6) (N := some 67) (v := ?_) (a' := ?_) #[true, true, false, false, true, true, true, false, false] rfl rfl (any_of HT_.out (by kernel_rfl)) (fun _ _ _ h => h) (Or.inl ⟨by rfl, ?_⟩) ?_ ?_
                             rotate_left
                             · intro w'
                               go_simp
                               with_reducible rfl
                             rotate_left
                             · simp only [Act.put, List.setIfInBounds_toArray, List.set_cons_zero, List.set_cons_succ, i64_w, i32_w]
                               rfl
                             refine one_ (i := 2) (N := some 63) #[true, true, true, false, true, true, true, false, false] rfl rfl (one_of HT_.out (by kernel_rfl)) (by decide) (fun K hK => ?_)
                             refine value_ (w1 := ?_) (v := ?_) (by rfl) rfl ?_ ?_
                             rotate_left 2
                             · go_simp
                               constructor
                               · rfl
                               · rfl
                             refine hK.out _ _ trivial (fun hHeld => ?_)
                             clear hK K
                             refine norm_ (a' := ?_) ?_ ?_
                             rotate_left
                             · show Act.put _ (some 63) _ = _
                               simp only [Act.put, List.setIfInBounds_toArray, List.set_cons_zero, List.set_cons_succ, i64_w, i32_w]
                               rfl
                             refine one_ (i := 3) (N := some 64) #[true, true, true, true, true, true, true, false, false] rfl rfl (one_of HT_.out (by kernel_rfl)) (by decide) (fun K hK => ?_)
                             refine Kd.R_append_step (Kd.int .i64) (w0 := w) w.heap.size (by rfl) (.tmp 61) (.tmp 63) 81 3 (.int .i64 0) 8 rfl Tryz.underlying81 info3 rfl (by decide) (by omega) v289 y288 x5_5 [.int .i64 x5_5] (fun k_ => some k_ ≠ (.slice (some ad279) x3_1.length co21 : Value).ownBlock) (fun _ => False) rfl rfl ?aP (fun _ hk => hk.elim) ?aF ?aO ?aB ?aS ?aL ?_
                             (case aP => exact rfl)
                             (case aB => exact (by repeat (first | (with_reducible first | exact HB.out | apply below_alloc | apply pw_below_drewN | apply below_drew1) | exact HB.out)))
                             (case aF => exact (fun k_ hk => Kd.fresh' (Kd.R_lt (by (with_reducible repeat (first | apply Kd.R_alloc | apply Kd.R_drewN | apply Kd.R_drew)); exact HO_3.out)) k_ hk))
                             (case aO => exact (by (with_reducible repeat (first | apply Kd.R_alloc | apply Kd.R_drewN | apply Kd.R_drew)); exact HO290.out))
                             (case aS => exact (below_size (by repeat (first | (with_reducible first | exact HB.out | apply below_alloc | apply pw_below_drewN | apply below_drew1) | exact HB.out))))
                             (case aL => have := LMc17.out; omega)
                             intro v292 w28 ho hb hg hat
                             rw [← Ny291.out] at ho
                             have n0_ := Aside0.mk (Kd.R_after (ok := (fun _ => True)) (by (with_reducible repeat (first | apply Kd.R_alloc | apply Kd.R_drewN | apply Kd.R_drew)); exact HO_3.out) hg hat)
                             have n1_ := Aside0.mk (hb)
                             have n2_ := Aside0.mk ((show Kd.C (Kd.int .i64) w28 (some ad279) y284.length y284 from by rw [Ny284.out]; exact Kd.C_take (m := (x6_3 : Int).toNat) ((Kd.R_reads' (Kd.R_after (ok := (fun _ => True)) (by (with_reducible repeat (first | apply Kd.R_alloc | apply Kd.R_drewN | apply Kd.R_drew)); exact HO_3.out) hg hat)).2.2) KL24.out))
                             have n3_ := Aside0.mk ((show Kd.C (Kd.int .i64) w28 A27 y294.length y294 from by rw [Ny294.out, KA27.out]; exact Kd.C_drop (m := (x6_3 : Int).toNat) (c := co21) ((Kd.R_reads' (Kd.R_after (ok := (fun _ => True)) (by (with_reducible repeat (first | apply Kd.R_alloc | apply Kd.R_drewN | apply Kd.R_drew)); exact HO_3.out) hg hat)).2.2) KL27.out ((Kd.R_reads' (Kd.R_after (ok := (fun _ => True)) (by (with_reducible repeat (first | apply Kd.R_alloc | apply Kd.R_drewN | apply Kd.R_drew)); exact HO_3.out) hg hat)).2.1)))
                             have n4_ := Aside0.mk (ho)
                             clear HO_3
                             clear HB
                             clear HR287
                             clear HR297
                             clear HO290
                             have HO_3 := n0_
                             have HB := n1_
                             have HR287 := n2_
                             have HR297 := n3_
                             have HO293 := n4_
                             clear n0_ n1_ n2_ n3_ n4_
                             clear ho hb hg hat
                             refine hK.out _ _ trivial (fun hHeld => ?_)
                             clear hK K
                             refine norm_ (a' := ?_) ?_ ?_
                             rotate_left
                             · show Act.put _ (some 64) _ = _
                               simp only [Act.put, List.setIfInBounds_toArray, List.set_cons_zero, List.set_cons_succ, i64_w, i32_w]
                               rfl
                             refine one_ (i := 7) (N := some 68) #[true, true, true, true, true, true, true, true, false] rfl rfl (one_of HT_.out (by kernel_rfl)) (by decide) (fun K hK => ?_)
                             refine Kd.R_append_rows_step (Kd.int .i64) (w0 := w) w.heap.size (by rfl) (.tmp 64) (.tmp 67) 81 3 (.int .i64 0) 8 rfl Tryz.underlying81 info3 rfl (by decide) (by omega) v292 y291 y294 _ _ _ (fun k_ => some k_ ≠ (.slice (some ad279) x3_1.length co21 : Value).ownBlock) (fun _ => False) rfl rfl ?aO ?aR (fun _ _ h => h) (fun _ h => h.elim) ?aF ?aB ?aS ?aL ?_
                             (case aR => repeat (first | exact (by repeat (first | (with_reducible exact HR297.out) | (with_reducible refine Kd.C_alloc ?_ _) | (with_reducible refine Kd.C_drewN ?_ _) | (with_reducible refine Kd.C_drew ?_) | exact HR297.out)) | (with_reducible refine Kd.C_alloc ?_ _) | (with_reducible refine Kd.C_drewN ?_ _) | (with_reducible refine Kd.C_drew ?_)))
                             (case aB => exact (by repeat (first | (with_reducible first | exact HB.out | apply below_alloc | apply pw_below_drewN | apply below_drew1) | exact HB.out)))
                             (case aF => exact (fun k_ hk => Kd.fresh' (Kd.R_lt (by (with_reducible repeat (first | apply Kd.R_alloc | apply Kd.R_drewN | apply Kd.R_drew)); exact HO_3.out)) k_ hk))
                             (case aO => exact (by (with_reducible repeat (first | apply Kd.R_alloc | apply Kd.R_drewN | apply Kd.R_drew)); exact HO293.out))
                             (case aS => exact (below_size (by repeat (first | (with_reducible first | exact HB.out | apply below_alloc | apply pw_below_drewN | apply below_drew1) | exact HB.out))))
                             (case aL => have := LMc20.out; omega)
                             intro v299 w29 ho hb hg hat
                             rw [← Ny298.out] at ho
                             have n0_ := Aside0.mk (Kd.R_after (ok := (fun _ => True)) (by (with_reducible repeat (first | apply Kd.R_alloc | apply Kd.R_drewN | apply Kd.R_drew)); exact HO_3.out) hg hat)
                             have n1_ := Aside0.mk (hb)
                             have n2_ := Aside0.mk ((show Kd.C (Kd.int .i64) w29 (some ad279) y284.length y284 from by rw [Ny284.out]; exact Kd.C_take (m := (x6_3 : Int).toNat) ((Kd.R_reads' (Kd.R_after (ok := (fun _ => True)) (by (with_reducible repeat (first | apply Kd.R_alloc | apply Kd.R_drewN | apply Kd.R_drew)); exact HO_3.out) hg hat)).2.2) KL24.out))
                             have n3_ := Aside0.mk ((show Kd.C (Kd.int .i64) w29 A27 y294.length y294 from by rw [Ny294.out, KA27.out]; exact Kd.C_drop (m := (x6_3 : Int).toNat) (c := co21) ((Kd.R_reads' (Kd.R_after (ok := (fun _ => True)) (by (with_reducible repeat (first | apply Kd.R_alloc | apply Kd.R_drewN | apply Kd.R_drew)); exact HO_3.out) hg hat)).2.2) KL27.out ((Kd.R_reads' (Kd.R_after (ok := (fun _ => True)) (by (with_reducible repeat (first | apply Kd.R_alloc | apply Kd.R_drewN | apply Kd.R_drew)); exact HO_3.out) hg hat)).2.1)))
                             have n4_ := Aside0.mk (ho)
                             clear HO_3
                             clear HB
                             clear HR287
                             clear HR297
                             clear HO293
                             have HO_3 := n0_
                             have HB := n1_
                             have HR287 := n2_
                             have HR297 := n3_
                             have HO300 := n4_
                             clear n0_ n1_ n2_ n3_ n4_
                             clear ho hb hg hat
                             refine hK.out _ _ trivial (fun hHeld => ?_)
                             clear hK K
                             refine norm_ (a' := ?_) ?_ ?_
                             rotate_left
                             · show Act.put _ (some 68) _ = _
                               simp only [Act.put, List.setIfInBounds_toArray, List.set_cons_zero, List.set_cons_succ, i64_w, i32_w]
                               rfl
                             refine pure_ (i := 8) (N := some 3) (v := ?_) (a' := ?_) #[true, true, true, true, true, true, true, true, true] rfl rfl (any_of HT_.out (by kernel_rfl)) (fun _ _ _ h => h) (Or.inl ⟨by rfl, ?_⟩) ?_ ?_
                             rotate_left
                             · intro w'
                               go_simp
                               with_reducible rfl
                             rotate_left
                             · simp only [Act.put, List.setIfInBounds_toArray, List.set_cons_zero, List.set_cons_succ, i64_w, i32_w]
                               rfl
                             refine done_ (done_of HT_.out (by kernel_rfl)) ?_
                             try go_wp2
                             go_roundg k3
                             case measure => have := HK1.out; have := HJ5.out; have := HK3.out; omega
                             case rel => exact ⟨(y298), (wrap64 (x4_1 + 1)), (by first | rfl | (simp; done) | (simp [*]; done)), H', ⟨by have := HK1.out; have := HJ5.out; have := HK3.out; omega⟩, ⟨by (with_reducible repeat (first | apply Kd.R_alloc | apply Kd.R_drewN | apply Kd.R_drew)); exact Kd.R_mono HO300.out (fun _ hk => trivial)⟩, ⟨by repeat (first | (with_reducible first | exact HB.out | apply below_alloc | apply pw_below_drewN | apply below_drew1) | exact HB.out)⟩⟩
                           · rw [if_neg c20] at H
                             exact absurd H (by simp)
                         · rw [if_neg c17] at H
                           exact absurd H (by simp)
                       · rw [if_neg c16] at H
                         exact absurd H (by simp)
                     · rw [if_neg c15] at H
                       exact absurd H (by simp)
               · rw [if_neg c9] at H
                 exact absurd H (by simp)
             · rw [if_neg c8] at H
               have c8b0 : decide (x6_3 < (x3_1.length : Int)) = false := decide_eq_false c8
               clear c8
               obtain ⟨y301, hy301⟩ : ∃ y_ : List Int, y_ = (([] : List Int)) := ⟨_, rfl⟩
               replace H : (if 0 ≤ x6_3 then (if x6_3 ≤ (x3_1.length : Int) then ((some (x3_1.take (x6_3 : Int).toNat : List Int)).bind fun y304 => (if y301.length + y304.length < 17592186044416 then ((some (y301 ++ y304 : List Int)).bind fun y308 => (if y308.length < 17592186044416 then ((some (y308 ++ [x5_5] : List Int)).bind fun y311 => ((some (x3_1.drop (x6_3 : Int).toNat : List Int)).bind fun y314 => (if y311.length + y314.length < 17592186044416 then (goboref3_cuts.l0 k3 l0 (y311 ++ y314) (wrap64 (x4_1 + 1))) else (none)))) else (none))) else (none))) else (none)) else (none)) = some r := by first | (rw [hy301]; with_reducible exact H) | (have H2_ := (Option.bind_some _ _).symm.trans H; rw [hy301]; with_reducible exact H2_) | (have H2_ := (Option.bind_some _ _).symm.trans H; with_reducible exact H2_) | with_reducible exact H | (rw [hy301]; exact H) | exact H
               have Ny301 := Aside0.mk hy301
               clear hy301
               by_cases c30 : 0 ≤ x6_3
               · rw [if_pos c30] at H
                 have c30b0 := eq_true c30
                 have c30b1 : decide (0 ≤ x6_3) = true := decide_eq_true c30
                 clear c30
                 by_cases c31 : x6_3 ≤ (x3_1.length : Int)
                 · rw [if_pos c31] at H
                   have c31b0 := eq_true c31
                   have c31b1 : decide (x6_3 ≤ (x3_1.length : Int)) = true := decide_eq_true c31
                   clear c31
                   obtain ⟨y304, hy304⟩ : ∃ y_ : List Int, y_ = (x3_1.take (x6_3 : Int).toNat) := ⟨_, rfl⟩
                   replace H : (if y301.length + y304.length < 17592186044416 then ((some (y301 ++ y304 : List Int)).bind fun y308 => (if y308.length < 17592186044416 then ((some (y308 ++ [x5_5] : List Int)).bind fun y311 => ((some (x3_1.drop (x6_3 : Int).toNat : List Int)).bind fun y314 => (if y311.length + y314.length < 17592186044416 then (goboref3_cuts.l0 k3 l0 (y311 ++ y314) (wrap64 (x4_1 + 1))) else (none)))) else (none))) else (none)) = some r := by first | (rw [hy304]; with_reducible exact H) | (have H2_ := (Option.bind_some _ _).symm.trans H; rw [hy304]; with_reducible exact H2_) | (have H2_ := (Option.bind_some _ _).symm.trans H; with_reducible exact H2_) | with_reducible exact H | (rw [hy304]; exact H) | exact H
                   have Ny304 := Aside0.mk hy304
                   clear hy304
                   by_cases c32 : y301.length + y304.length < 17592186044416
                   · rw [if_pos c32] at H
                     have LMc32 := Aside0.mk c32
                     clear c32
                     obtain ⟨y308, hy308⟩ : ∃ y_ : List Int, y_ = (y301 ++ y304) := ⟨_, rfl⟩
                     replace H : (if y308.length < 17592186044416 then ((some (y308 ++ [x5_5] : List Int)).bind fun y311 => ((some (x3_1.drop (x6_3 : Int).toNat : List Int)).bind fun y314 => (if y311.length + y314.length < 17592186044416 then (goboref3_cuts.l0 k3 l0 (y311 ++ y314) (wrap64 (x4_1 + 1))) else (none)))) else (none)) = some r := by first | (rw [hy308]; with_reducible exact H) | (have H2_ := (Option.bind_some _ _).symm.trans H; rw [hy308]; with_reducible exact H2_) | (have H2_ := (Option.bind_some _ _).symm.trans H; with_reducible exact H2_) | with_reducible exact H | (rw [hy308]; exact H) | exact H
                     have Ny308 := Aside0.mk hy308
                     clear hy308
                     by_cases c33 : y308.length < 17592186044416
                     · rw [if_pos c33] at H
                       have LMc33 := Aside0.mk c33
                       clear c33
                       obtain ⟨y311, hy311⟩ : ∃ y_ : List Int, y_ = (y308 ++ [x5_5]) := ⟨_, rfl⟩
                       replace H : ((some (x3_1.drop (x6_3 : Int).toNat : List Int)).bind fun y314 => (if y311.length + y314.length < 17592186044416 then (goboref3_cuts.l0 k3 l0 (y311 ++ y314) (wrap64 (x4_1 + 1))) else (none))) = some r := by first | (rw [hy311]; with_reducible exact H) | (have H2_ := (Option.bind_some _ _).symm.trans H; rw [hy311]; with_reducible exact H2_) | (have H2_ := (Option.bind_some _ _).symm.trans H; with_reducible exact H2_) | with_reducible exact H | (rw [hy311]; exact H) | exact H
                       have Ny311 := Aside0.mk hy311
                       clear hy311
                       have c34b0 := eq_true (of_decide_eq_true (by first | (with_reducible assumption) | assumption) : 0 ≤ x6_3)
                       have c35b0 := eq_true (of_decide_eq_true (by first | (with_reducible assumption) | assumption) : x6_3 ≤ (x3_1.length : Int))
                       obtain ⟨y314, hy314⟩ : ∃ y_ : List Int, y_ = (x3_1.drop (x6_3 : Int).toNat) := ⟨_, rfl⟩
                       replace H : (if y311.length + y314.length < 17592186044416 then (goboref3_cuts.l0 k3 l0 (y311 ++ y314) (wrap64 (x4_1 + 1))) else (none)) = some r := by first | (rw [hy314]; with_reducible exact H) | (have H2_ := (Option.bind_some _ _).symm.trans H; rw [hy314]; with_reducible exact H2_) | (have H2_ := (Option.bind_some _ _).symm.trans H; with_reducible exact H2_) | with_reducible exact H | (rw [hy314]; exact H) | exact H
                       have Ny314 := Aside0.mk hy314
                       clear hy314
                       by_cases c36 : y311.length + y314.length < 17592186044416
                       · rw [if_pos c36] at H
                         have LMc36 := Aside0.mk c36
                         clear c36
                         obtain ⟨y318, hy318⟩ : ∃ y_ : List Int, y_ = (y311 ++ y314) := ⟨_, rfl⟩
                         replace H : (goboref3_cuts.l0 k3 l0 y318 (wrap64 (x4_1 + 1))) = some r := by first | (rw [hy318]; with_reducible exact H) | (have H2_ := (Option.bind_some _ _).symm.trans H; rw [hy318]; with_reducible exact H2_) | (have H2_ := (Option.bind_some _ _).symm.trans H; with_reducible exact H2_) | with_reducible exact H | (rw [hy318]; exact H) | exact H
                         have Ny318 := Aside0.mk hy318
                         clear hy318
                         have H' := Aside0.mk H
                         clear H
                         obtain ⟨Ao37, co37, eo37⟩ := Kd.R_slice HO_3.out
                         subst eo37
                         try go_wp2_with (first | ((with_reducible refine gate_dst (N := 56) rfl ?_); refine Kd.R_lit (Kd.int .i64) _ 3 ?hg (N := 56) ?hd (xs := ([] : List Int)) (inner := []) (ok := fun _ => True) (okp := fun _ => True) ?hr ?hp (fun _ hk => hk) trivial (Below.refl _ _) (Nat.le_refl _) (by simp) ?_; (case hd => rfl); (case hg => rfl); (case hr => first | (go_simp; done) | (go_simp; rfl)); (case hp => exact (Reps.none _ _)); intro v302 w38 ho39 hb hg_ hnew_; clear hg_ hnew_; (first | rw [← Ny301.out] at ho39 | (simp only [Int.reduceToNat] at ho39; rw [← Ny301.out] at ho39)); have n0_ := Aside0.mk (Kd.R_elder' (by (with_reducible repeat (first | apply Kd.R_alloc | apply Kd.R_drewN | apply Kd.R_drew)); exact HO_3.out) (Kd.R_base ho39) hb); have n1_ := Aside0.mk (Kd.R_lower (Kd.R_new' ho39 (Kd.R_lt (by (with_reducible repeat (first | apply Kd.R_alloc | apply Kd.R_drewN | apply Kd.R_drew)); exact HO_3.out))) (below_size (by repeat (first | (with_reducible first | exact HB.out | apply below_alloc | apply pw_below_drewN | apply below_drew1) | exact HB.out)))); have n2_ := Aside0.mk (below_step (by repeat (first | (with_reducible first | exact HB.out | apply below_alloc | apply pw_below_drewN | apply below_drew1) | exact HB.out)) hb); clear HO_3; clear HB; have HO_3 := n0_; have HO303 := n1_; have HB := n2_; clear n0_ n1_ n2_; clear hb ho39; have q40 : (x6_3 : Int) ≤ ((x3_1.length : Int) : Int) := of_decide_eq_true (by first | (with_reducible assumption) | assumption); obtain ⟨i040, hi040, _, hsz40, _⟩ := info_parts info3; have hroom40 : x3_1.length ≤ co37 := (Kd.R_reads' HO_3.out).2.1; have hC40 : Kd.C (Kd.int .i64) _ Ao37 x3_1.length x3_1 := (Kd.R_reads' HO_3.out).2.2; have hcut40 := cut_to (P := Tryz.prog) 81 3 .i64 Tryz.underlying81 hi040 Ao37 x3_1.length co37 x6_3 (of_decide_eq_true (by first | (with_reducible assumption) | assumption)) q40 hroom40; have hr40 := Kd.C_take (m := (x6_3 : Int).toNat) hC40 (by omega); have hy40 : y304.length = (x6_3 : Int).toNat := (by rw [Ny304.out, List.length_take]; omega); rw [← Ny304.out] at hr40; rw [← hy40] at hcut40; have HR307 := Aside0.mk hr40; have HC307 := Aside0.mk (show y304.length ≤ co37 from by omega); clear hr40 hC40 hroom40 hi040 hsz40; have KY40 := Aside0.mk hy40; clear hy40; have KL40 := Aside0.mk (show (x6_3 : Int).toNat ≤ x3_1.length from by omega); replace q40 := eq_true q40) | ((with_reducible refine gate_builtin (b := .append) (xs := #[.tmp 56, .tmp 59]) rfl ?_); at_builtin; refine Kd.R_append_rows (Kd.int .i64) (w0 := w) w.heap.size rfl (.tmp 56) (.tmp 59) 81 3 (.int .i64 0) 8 rfl Tryz.underlying81 info3 rfl (by decide) (by omega) v302 y301 y304 _ _ _ (fun k_ => some k_ ≠ (.slice Ao37 x3_1.length co37 : Value).ownBlock) (fun _ => False) rfl rfl ?aO ?aR (fun _ _ h => h) (fun _ h => h.elim) ?aF ?aB ?aS ?aL ?_; (case aR => repeat (first | exact (by repeat (first | (with_reducible exact HR307.out) | (with_reducible refine Kd.C_alloc ?_ _) | (with_reducible refine Kd.C_drewN ?_ _) | (with_reducible refine Kd.C_drew ?_) | exact HR307.out)) | (with_reducible refine Kd.C_alloc ?_ _) | (with_reducible refine Kd.C_drewN ?_ _) | (with_reducible refine Kd.C_drew ?_))); (case aB => exact (by repeat (first | (with_reducible first | exact HB.out | apply below_alloc | apply pw_below_drewN | apply below_drew1) | exact HB.out))); (case aF => exact (fun k_ hk => Kd.fresh' (Kd.R_lt (by (with_reducible repeat (first | apply Kd.R_alloc | apply Kd.R_drewN | apply Kd.R_drew)); exact HO_3.out)) k_ hk)); (case aO => exact (by (with_reducible repeat (first | apply Kd.R_alloc | apply Kd.R_drewN | apply Kd.R_drew)); exact Kd.R_mono HO303.out (fun _ hk => hk.2))); (case aS => exact (below_size (by repeat (first | (with_reducible first | exact HB.out | apply below_alloc | apply pw_below_drewN | apply below_drew1) | exact HB.out)))); (case aL => have := LMc32.out; omega); intro v309 w41 ho hb hg hat; rw [← Ny308.out] at ho; have n0_ := Aside0.mk (Kd.R_after (ok := (fun _ => True)) (by (with_reducible repeat (first | apply Kd.R_alloc | apply Kd.R_drewN | apply Kd.R_drew)); exact HO_3.out) hg hat); have n1_ := Aside0.mk (hb); have n2_ := Aside0.mk ((show Kd.C (Kd.int .i64) w41 Ao37 y304.length y304 from by rw [Ny304.out]; exact Kd.C_take (m := (x6_3 : Int).toNat) ((Kd.R_reads' (Kd.R_after (ok := (fun _ => True)) (by (with_reducible repeat (first | apply Kd.R_alloc | apply Kd.R_drewN | apply Kd.R_drew)); exact HO_3.out) hg hat)).2.2) KL40.out)); have n3_ := Aside0.mk (ho); clear HO_3; clear HB; clear HR307; clear HO303; have HO_3 := n0_; have HB := n1_; have HR307 := n2_; have HO310 := n3_; clear n0_ n1_ n2_ n3_; clear ho hb hg hat))
                         have n0_ := Aside0.mk (Kd.R_drew HO_3.out)
                         have n1_ := Aside0.mk (Kd.R_drew HO310.out)
                         have n2_ := Aside0.mk (Kd.C_drew HR307.out)
                         have n3_ := Aside0.mk (below_drew1 HB.out)
                         clear HO_3
                         clear HO310
                         clear HR307
                         clear HB
                         have HO_3 := n0_
                         have HO310 := n1_
                         have HR307 := n2_
                         have HB := n3_
                         clear n0_ n1_ n2_ n3_
                         have q43 : (x6_3 : Int) ≤ ((x3_1.length : Int) : Int) := of_decide_eq_true (by first | (with_reducible assumption) | assumption)
                         obtain ⟨i043, hi043, _, hsz43, _⟩ := info_parts info3
                         have hroom43 : x3_1.length ≤ co37 := (Kd.R_reads' HO_3.out).2.1
                         have hC43 : Kd.C (Kd.int .i64) _ Ao37 x3_1.length x3_1 := (Kd.R_reads' HO_3.out).2.2
                         have q043 : (0 : Int) ≤ (x6_3 : Int) := of_decide_eq_true (by first | (with_reducible assumption) | assumption)
                         have hcut43 := cut_from (P := Tryz.prog) 81 3 .i64 Tryz.underlying81 hi043 1 hsz43 Ao37 x3_1.length co37 x6_3 q043 q43
                         have hr43 := Kd.C_drop (m := (x6_3 : Int).toNat) (c := co37) hC43 (by omega) hroom43
                         obtain ⟨A43, hA43⟩ : ∃ A1, A1 = (if co37 = (x6_3 : Int).toNat then Ao37 else (Ao37 : Option Addr).map (·.add ((x6_3 : Int).toNat * 1))) := ⟨_, rfl⟩
                         obtain ⟨c43, hc43⟩ : ∃ c1, c1 = co37 - (x6_3 : Int).toNat := ⟨_, rfl⟩
                         have hy43 : y314.length = x3_1.length - (x6_3 : Int).toNat := (by rw [Ny314.out, List.length_drop] <;> omega)
                         rw [show (x3_1).drop (x6_3 : Int).toNat = y314 from Ny314.out.symm] at hr43
                         replace hr43 : Kd.C (Kd.int .i64) _ A43 y314.length y314 := (by rw [hA43]; exact hr43)
                         rw [← hy43, ← hA43, ← hc43] at hcut43
                         have HR317 := Aside0.mk hr43
                         have HC317 := Aside0.mk (show y314.length ≤ c43 from by rw [hy43, hc43]; exact Nat.sub_le_sub_right hroom43 _)
                         clear hr43 hC43 hroom43 hi043 hsz43 hc43
                         have KY43 := Aside0.mk hy43
                         have KA43 := Aside0.mk hA43
                         clear hy43 hA43
                         have KL43 := Aside0.mk (show (x6_3 : Int).toNat ≤ x3_1.length from by omega)
                         replace q43 := eq_true q43
                         refine start_ (n := 9) (S := fun w' => True) (ds := []) #[false, false, false, false, false, false, false, false, false] (by kernel_rfl) rfl rfl trivial (fun hHeld => ?_); refine with_tabW goboref3_cuts.tab13 goboref3_cuts.bits13 (fun HT_ HW_ => ?_)
                         generalize w41.drew = w42 at HO_3 HO310 HR307 HB HR317 hHeld ⊢
                         refine pure_ (i := 0) (N := some 61) (v := ?_) (a' := ?_) #[true, false, false, false, false, false, false, false, false] rfl rfl (any_of HT_.out (by kernel_rfl)) (fun _ _ _ h => h) (Or.inl ⟨by rfl, ?_⟩) ?_ ?_
                         rotate_left
                         · intro w'
                           go_simp
                           with_reducible rfl
                         rotate_left
                         · simp only [Act.put, List.setIfInBounds_toArray, List.set_cons_zero, List.set_cons_succ, i64_w, i32_w]
                           rfl
                         refine pure_ (i := 1) (N := some 62) (v := ?_) (a' := ?_) #[true, true, false, false, false, false, false, false, false] rfl rfl (any_of HT_.out (by kernel_rfl)) (fun _ _ _ h => h) (Or.inl ⟨by rfl, ?_⟩) ?_ ?_
                         rotate_left
                         · intro w'
                           go_simp
                           with_reducible rfl
                         rotate_left
                         · simp only [Act.put, List.setIfInBounds_toArray, List.set_cons_zero, List.set_cons_succ, i64_w, i32_w]
                           rfl
                         refine pure_ (i := 4) (N := some 65) (v := ?_) (a' := ?_) #[true, true, false, false, true, false, false, false, false] rfl rfl (any_of HT_.out (by kernel_rfl)) (fun _ _ _ h => h) (Or.inl ⟨by rfl, ?_⟩) ?_ ?_
                         rotate_left
                         · intro w'
                           go_simp
                           with_reducible rfl
                         rotate_left
                         · simp only [Act.put, List.setIfInBounds_toArray, List.set_cons_zero, List.set_cons_succ, i64_w, i32_w]
                           rfl
                         refine pure_ (i := 5) (N := some 66) (v := ?_) (a' := ?_) #[true, true, false, false, true, true, false, false, false] rfl rfl (any_of HT_.out (by kernel_rfl)) (fun _ _ _ h => h) (Or.inl ⟨by rfl, ?_⟩) ?_ ?_
                         rotate_left
                         · intro w'
                           go_simp
                           with_reducible rfl
                         rotate_left
                         · simp only [Act.put, List.setIfInBounds_toArray, List.set_cons_zero, List.set_cons_succ, i64_w, i32_w]
                           rfl
                         refine pure_ (i := 6) (N := some 67) (v := ?_) (a' := ?_) #[true, true, false, false, true, true, true, false, false] rfl rfl (any_of HT_.out (by kernel_rfl)) (fun _ _ _ h => h) (Or.inl ⟨by rfl, ?_⟩) ?_ ?_
                         rotate_left
                         · intro w'
                           go_simp
                           with_reducible rfl
                         rotate_left
                         · simp only [Act.put, List.setIfInBounds_toArray, List.set_cons_zero, List.set_cons_succ, i64_w, i32_w]
                           rfl
                         refine one_ (i := 2) (N := some 63) #[true, true, true, false, true, true, true, false, false] rfl rfl (one_of HT_.out (by kernel_rfl)) (by decide) (fun K hK => ?_)
                         refine value_ (w1 := ?_) (v := ?_) (by rfl) rfl ?_ ?_
                         rotate_left 2
                         · go_simp
                           constructor
                           · rfl
                           · rfl
                         refine hK.out _ _ trivial (fun hHeld => ?_)
                         clear hK K
                         refine norm_ (a' := ?_) ?_ ?_
                         rotate_left
                         · show Act.put _ (some 63) _ = _
                           simp only [Act.put, List.setIfInBounds_toArray, List.set_cons_zero, List.set_cons_succ, i64_w, i32_w]
                           rfl
                         refine one_ (i := 3) (N := some 64) #[true, true, true, true, true, true, true, false, false] rfl rfl (one_of HT_.out (by kernel_rfl)) (by decide) (fun K hK => ?_)
                         refine Kd.R_append_step (Kd.int .i64) (w0 := w) w.heap.size (by rfl) (.tmp 61) (.tmp 63) 81 3 (.int .i64 0) 8 rfl Tryz.underlying81 info3 rfl (by decide) (by omega) v309 y308 x5_5 [.int .i64 x5_5] (fun k_ => some k_ ≠ (.slice Ao37 x3_1.length co37 : Value).ownBlock) (fun _ => False) rfl rfl ?aP (fun _ hk => hk.elim) ?aF ?aO ?aB ?aS ?aL ?_
                         (case aP => exact rfl)
                         (case aB => exact (by repeat (first | (with_reducible first | exact HB.out | apply below_alloc | apply pw_below_drewN | apply below_drew1) | exact HB.out)))
                         (case aF => exact (fun k_ hk => Kd.fresh' (Kd.R_lt (by (with_reducible repeat (first | apply Kd.R_alloc | apply Kd.R_drewN | apply Kd.R_drew)); exact HO_3.out)) k_ hk))
                         (case aO => exact (by (with_reducible repeat (first | apply Kd.R_alloc | apply Kd.R_drewN | apply Kd.R_drew)); exact HO310.out))
                         (case aS => exact (below_size (by repeat (first | (with_reducible first | exact HB.out | apply below_alloc | apply pw_below_drewN | apply below_drew1) | exact HB.out))))
                         (case aL => have := LMc33.out; omega)
                         intro v312 w44 ho hb hg hat
                         rw [← Ny311.out] at ho
                         have n0_ := Aside0.mk (Kd.R_after (ok := (fun _ => True)) (by (with_reducible repeat (first | apply Kd.R_alloc | apply Kd.R_drewN | apply Kd.R_drew)); exact HO_3.out) hg hat)
                         have n1_ := Aside0.mk (hb)
                         have n2_ := Aside0.mk ((show Kd.C (Kd.int .i64) w44 Ao37 y304.length y304 from by rw [Ny304.out]; exact Kd.C_take (m := (x6_3 : Int).toNat) ((Kd.R_reads' (Kd.R_after (ok := (fun _ => True)) (by (with_reducible repeat (first | apply Kd.R_alloc | apply Kd.R_drewN | apply Kd.R_drew)); exact HO_3.out) hg hat)).2.2) KL40.out))
                         have n3_ := Aside0.mk ((show Kd.C (Kd.int .i64) w44 A43 y314.length y314 from by rw [Ny314.out, KA43.out]; exact Kd.C_drop (m := (x6_3 : Int).toNat) (c := co37) ((Kd.R_reads' (Kd.R_after (ok := (fun _ => True)) (by (with_reducible repeat (first | apply Kd.R_alloc | apply Kd.R_drewN | apply Kd.R_drew)); exact HO_3.out) hg hat)).2.2) KL43.out ((Kd.R_reads' (Kd.R_after (ok := (fun _ => True)) (by (with_reducible repeat (first | apply Kd.R_alloc | apply Kd.R_drewN | apply Kd.R_drew)); exact HO_3.out) hg hat)).2.1)))
                         have n4_ := Aside0.mk (ho)
                         clear HO_3
                         clear HB
                         clear HR307
                         clear HR317
                         clear HO310
                         have HO_3 := n0_
                         have HB := n1_
                         have HR307 := n2_
                         have HR317 := n3_
                         have HO313 := n4_
                         clear n0_ n1_ n2_ n3_ n4_
                         clear ho hb hg hat
                         refine hK.out _ _ trivial (fun hHeld => ?_)
                         clear hK K
                         refine norm_ (a' := ?_) ?_ ?_
                         rotate_left
                         · show Act.put _ (some 64) _ = _
                           simp only [Act.put, List.setIfInBounds_toArray, List.set_cons_zero, List.set_cons_succ, i64_w, i32_w]
                           rfl
                         refine one_ (i := 7) (N := some 68) #[true, true, true, true, true, true, true, true, false] rfl rfl (one_of HT_.out (by kernel_rfl)) (by decide) (fun K hK => ?_)
                         refine Kd.R_append_rows_step (Kd.int .i64) (w0 := w) w.heap.size (by rfl) (.tmp 64) (.tmp 67) 81 3 (.int .i64 0) 8 rfl Tryz.underlying81 info3 rfl (by decide) (by omega) v312 y311 y314 _ _ _ (fun k_ => some k_ ≠ (.slice Ao37 x3_1.length co37 : Value).ownBlock) (fun _ => False) rfl rfl ?aO ?aR (fun _ _ h => h) (fun _ h => h.elim) ?aF ?aB ?aS ?aL ?_
                         (case aR => repeat (first | exact (by repeat (first | (with_reducible exact HR317.out) | (with_reducible refine Kd.C_alloc ?_ _) | (with_reducible refine Kd.C_drewN ?_ _) | (with_reducible refine Kd.C_drew ?_) | exact HR317.out)) | (with_reducible refine Kd.C_alloc ?_ _) | (with_reducible refine Kd.C_drewN ?_ _) | (with_reducible refine Kd.C_drew ?_)))
                         (case aB => exact (by repeat (first | (with_reducible first | exact HB.out | apply below_alloc | apply pw_below_drewN | apply below_drew1) | exact HB.out)))
                         (case aF => exact (fun k_ hk => Kd.fresh' (Kd.R_lt (by (with_reducible repeat (first | apply Kd.R_alloc | apply Kd.R_drewN | apply Kd.R_drew)); exact HO_3.out)) k_ hk))
                         (case aO => exact (by (with_reducible repeat (first | apply Kd.R_alloc | apply Kd.R_drewN | apply Kd.R_drew)); exact HO313.out))
                         (case aS => exact (below_size (by repeat (first | (with_reducible first | exact HB.out | apply below_alloc | apply pw_below_drewN | apply below_drew1) | exact HB.out))))
                         (case aL => have := LMc36.out; omega)
                         intro v319 w45 ho hb hg hat
                         rw [← Ny318.out] at ho
                         have n0_ := Aside0.mk (Kd.R_after (ok := (fun _ => True)) (by (with_reducible repeat (first | apply Kd.R_alloc | apply Kd.R_drewN | apply Kd.R_drew)); exact HO_3.out) hg hat)
                         have n1_ := Aside0.mk (hb)
                         have n2_ := Aside0.mk ((show Kd.C (Kd.int .i64) w45 Ao37 y304.length y304 from by rw [Ny304.out]; exact Kd.C_take (m := (x6_3 : Int).toNat) ((Kd.R_reads' (Kd.R_after (ok := (fun _ => True)) (by (with_reducible repeat (first | apply Kd.R_alloc | apply Kd.R_drewN | apply Kd.R_drew)); exact HO_3.out) hg hat)).2.2) KL40.out))
                         have n3_ := Aside0.mk ((show Kd.C (Kd.int .i64) w45 A43 y314.length y314 from by rw [Ny314.out, KA43.out]; exact Kd.C_drop (m := (x6_3 : Int).toNat) (c := co37) ((Kd.R_reads' (Kd.R_after (ok := (fun _ => True)) (by (with_reducible repeat (first | apply Kd.R_alloc | apply Kd.R_drewN | apply Kd.R_drew)); exact HO_3.out) hg hat)).2.2) KL43.out ((Kd.R_reads' (Kd.R_after (ok := (fun _ => True)) (by (with_reducible repeat (first | apply Kd.R_alloc | apply Kd.R_drewN | apply Kd.R_drew)); exact HO_3.out) hg hat)).2.1)))
                         have n4_ := Aside0.mk (ho)
                         clear HO_3
                         clear HB
                         clear HR307
                         clear HR317
                         clear HO313
                         have HO_3 := n0_
                         have HB := n1_
                         have HR307 := n2_
                         have HR317 := n3_
                         have HO320 := n4_
                         clear n0_ n1_ n2_ n3_ n4_
                         clear ho hb hg hat
                         refine hK.out _ _ trivial (fun hHeld => ?_)
                         clear hK K
                         refine norm_ (a' := ?_) ?_ ?_
                         rotate_left
                         · show Act.put _ (some 68) _ = _
                           simp only [Act.put, List.setIfInBounds_toArray, List.set_cons_zero, List.set_cons_succ, i64_w, i32_w]
                           rfl
                         refine pure_ (i := 8) (N := some 3) (v := ?_) (a' := ?_) #[true, true, true, true, true, true, true, true, true] rfl rfl (any_of HT_.out (by kernel_rfl)) (fun _ _ _ h => h) (Or.inl ⟨by rfl, ?_⟩) ?_ ?_
                         rotate_left
                         · intro w'
                           go_simp
                           with_reducible rfl
                         rotate_left
                         · simp only [Act.put, List.setIfInBounds_toArray, List.set_cons_zero, List.set_cons_succ, i64_w, i32_w]
                           rfl
                         refine done_ (done_of HT_.out (by kernel_rfl)) ?_
                         try go_wp2
                         go_roundg k3
                         case measure => have := HK1.out; have := HJ5.out; have := HK3.out; omega
                         case rel => exact ⟨(y318), (wrap64 (x4_1 + 1)), (by first | rfl | (simp; done) | (simp [*]; done)), H', ⟨by have := HK1.out; have := HJ5.out; have := HK3.out; omega⟩, ⟨by (with_reducible repeat (first | apply Kd.R_alloc | apply Kd.R_drewN | apply Kd.R_drew)); exact Kd.R_mono HO320.out (fun _ hk => trivial)⟩, ⟨by repeat (first | (with_reducible first | exact HB.out | apply below_alloc | apply pw_below_drewN | apply below_drew1) | exact HB.out)⟩⟩
                       · rw [if_neg c36] at H
                         exact absurd H (by simp)
                     · rw [if_neg c33] at H
                       exact absurd H (by simp)
                   · rw [if_neg c32] at H
                     exact absurd H (by simp)
                 · rw [if_neg c31] at H
                   exact absurd H (by simp)
               · rw [if_neg c30] at H
                 exact absurd H (by simp)
       · rw [if_neg c5] at H
         exact absurd H (by simp)
     · rw [if_neg c4] at H
       exact absurd H (by simp)
   · rw [if_neg c2] at H
     have c2b0 : decide (x4_1 < (wrap64 (2 * (l0.length : Int)))) = false := decide_eq_false c2
     clear c2
     obtain rfl := Option.some.inj H
     go_wp2
     go_ret
     exact ⟨_, by first | rfl | (simp [errW_none, errW_some] <;> rfl) | (simp [*, errW_none, errW_some] <;> rfl), by (with_reducible repeat (first | apply Kd.R_alloc | apply Kd.R_drewN | apply Kd.R_drew)); exact HO_3.out, by repeat (first | (with_reducible first | exact HB.out | apply below_alloc | apply pw_below_drewN | apply below_drew1) | exact HB.out)⟩
end Go.Proofs.YthdfmbmbjpmlaaaGreatDoor.Rn
end
