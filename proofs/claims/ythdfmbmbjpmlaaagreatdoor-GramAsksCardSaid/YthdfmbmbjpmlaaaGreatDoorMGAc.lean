/- texts of this claim, one behind the other. -/
import Derived.Test.YthdfmbmbjpmlaaaGreatDoorMGAa
import Derived.Test.YthdfmbmbjpmlaaaGreatDoorMGAb
import Derived.Shelf.SlSortCmp.WholeK
import Derived.Shelf.SlSortCmp.NoneTotal
import Derived.Shelf.SlicesG.Cmp
import Derived.Shelf.SlGeneric
import Derived.Ground.SlsfProg
import Derived.Ground.SlgcProg
import Derived.Test.YthdfmbmbjpmlaaaGreatDoorProg
import Derived.Deep.DeepCutAuto
import Derived.StillTailTactics
section
namespace Go.Proofs.YthdfmbmbjpmlaaaGreatDoor.Rn
open Go.RowKit Go.Proofs.YthdfmbmbjpmlaaaGreatDoorW.PrintWords Go.Proofs.YthdfmbmbjpmlaaaGreatDoorW.PrintLast Go.Proofs.YthdfmbmbjpmlaaaGreatDoorW.PrintMore
attribute [local go_sem] max2_int min2_int max_two min_two max_three min_three max_four min_four   -- for this text's walks alone
set_option linter.unusedVariables false
set_option linter.unusedSimpArgs false
mutual
def goboref11_CountPat.l0 : Nat → Int → Int → Int → Int → List ByteArray → List ByteArray → List (S47) → Option (Int × Int)
 | 0, _, _, _, _, _, _, _ => none
 | k + 1, x4, x5, x6, x395000, x395001, x395002, x395003 => if x6 < (x395003.length : Int) then (if x4 < 2000 then (if 0 ≤ x6 then ((goboref11_CountPat.f k ((rd_T47 x395003 x6).f0) ((rd_T47 x395003 x6).f1) ((rd_T47 x395003 x6).f2) ((rd_T47 x395003 x6).f3)).bind fun bt396 => (goboref11_CountPat.l0 k (wrap64 (x4 + bt396.1)) (mx x5 bt396.2) (wrap64 (x6 + 1)) x395000 x395001 x395002 x395003)) else (none)) else (some (x4, wrap64 (x5 + 1)))) else (some (x4, wrap64 (x5 + 1)))
def goboref11_CountPat.f : Nat → Int → List ByteArray → List ByteArray → List (S47) → Option (Int × Int)
 | 0, _, _, _, _ => none
 | k + 1, a0_0, l0_1, l0_2, l0_3 => goboref11_CountPat.l0 k 1 0 0 a0_0 l0_1 l0_2 l0_3
end
theorem goboref11_CountPat.mono_l : ∀ k, (∀ y0 y1 y2 y3, LeO (goboref11_CountPat.f k y0 y1 y2 y3) (goboref11_CountPat.f (k + 1) y0 y1 y2 y3)) ∧ (∀ y0 y1 y2 y3 y4 y5 y6, LeO (goboref11_CountPat.l0 k y0 y1 y2 y3 y4 y5 y6) (goboref11_CountPat.l0 (k + 1) y0 y1 y2 y3 y4 y5 y6))
 | 0 => ⟨fun _ _ _ _ r h => by simp [goboref11_CountPat.f] at h, fun _ _ _ _ _ _ _ r h => by simp [goboref11_CountPat.l0] at h⟩
 | k + 1 => by
  obtain ⟨ih0, ih1⟩ := goboref11_CountPat.mono_l k
  refine ⟨?_, ?_⟩
  · intro y0 y1 y2 y3
    unfold goboref11_CountPat.f
    repeat' first
    | (with_reducible exact ih0 _ _ _ _)
    | (with_reducible exact ih1 _ _ _ _ _ _ _)
    | (with_reducible exact LeO.refl _)
    | (with_reducible exact LeO.none _)
    | (with_reducible refine LeO.ite ?_ ?_)
    | (with_reducible refine LeO.bind ?_ (fun _ => ?_))
    | exact ih0 _ _ _ _
    | exact ih1 _ _ _ _ _ _ _
    | exact LeO.none _
    | refine LeO.ite ?_ ?_
    | refine LeO.bind ?_ (fun _ => ?_)
  · intro y0 y1 y2 y3 y4 y5 y6
    unfold goboref11_CountPat.l0
    repeat' first
    | (with_reducible exact ih0 _ _ _ _)
    | (with_reducible exact ih1 _ _ _ _ _ _ _)
    | (with_reducible exact LeO.refl _)
    | (with_reducible exact LeO.none _)
    | (with_reducible refine LeO.ite ?_ ?_)
    | (with_reducible refine LeO.bind ?_ (fun _ => ?_))
    | exact ih0 _ _ _ _
    | exact ih1 _ _ _ _ _ _ _
    | exact LeO.none _
    | refine LeO.ite ?_ ?_
    | refine LeO.bind ?_ (fun _ => ?_)
theorem goboref11_CountPat.mono : ∀ a0 a1 a2 a3 k, LeO (goboref11_CountPat.f k a0 a1 a2 a3) (goboref11_CountPat.f (k + 1) a0 a1 a2 a3) := by
 intro a0 a1 a2 a3 k
 obtain ⟨ih0, ih1⟩ := goboref11_CountPat.mono_l k
 exact ih0 a0 a1 a2 a3
set_option maxHeartbeats 8000000 in
set_option maxRecDepth 100000 in
theorem goboref11_CountPat.calls (k : Nat) : ∀ (a0_0 : Int) (A0_1 : Option Addr) (c0_1 : Nat) (l0_1 : List ByteArray) (A0_2 : Option Addr) (c0_2 : Nat) (l0_2 : List ByteArray) (A0_3 : Option Addr) (c0_3 : Nat) (l0_3 : List (S47)) (r1 : Int) (r2 : Int) (w : World) (hr0_1 : Kd.C Kd.string w A0_1 l0_1.length l0_1) (hc0_1 : l0_1.length ≤ c0_1) (hr0_2 : Kd.C Kd.string w A0_2 l0_2.length l0_2) (hc0_2 : l0_2.length ≤ c0_2) (hr0_3 : Kd.C k47 w A0_3 l0_3.length l0_3) (hc0_3 : l0_3.length ≤ c0_3) (h : goboref11_CountPat.f k a0_0 l0_1 l0_2 l0_3 = some (r1, r2)),
 Calls Tryz.prog 56 #[.agg #[.int .i64 a0_0, .slice A0_1 l0_1.length c0_1, .slice A0_2 l0_2.length c0_2, .slice A0_3 l0_3.length c0_3]] w fun e w' => e = .returned (.tuple #[.int .i64 r1, .int .i64 r2]) ∧ Below w.heap.size w w' := by
 induction k using Nat.strongRecOn with
 | _ k ih =>
 intro a0_0 A0_1 c0_1 l0_1 A0_2 c0_2 l0_2 A0_3 c0_3 l0_3 r1 r2 w hr0_1 hc0_1 hr0_2 hc0_2 hr0_3 hc0_3 h
 cases k with
 | zero => exact absurd h (by simp [goboref11_CountPat.f])
 | succ k =>
 simp only [goboref11_CountPat.f] at h
 have hu47 := Tryz.underlying47
 have HR0_1 := Aside0.mk hr0_1
 have HC0_1 := Aside0.mk hc0_1
 clear hr0_1 hc0_1
 have HR0_2 := Aside0.mk hr0_2
 have HC0_2 := Aside0.mk hc0_2
 clear hr0_2 hc0_2
 have HR0_3 := Aside0.mk hr0_3
 have HC0_3 := Aside0.mk hc0_3
 clear hr0_3 hc0_3
 have HB := Aside0.mk (Below.refl w.heap.size w)
 have H : (goboref11_CountPat.l0 k 1 0 0 a0_0 l0_1 l0_2 l0_3) = some (r1, r2) := h
 clear h
 have H' := Aside0.mk H
 clear H
 go_enter Tryz.func56, Tryz.ntmps56
 go_wp2_with (first | ((with_reducible refine gate_dst (N := 1) rfl ?_); refine box_event ?hg (N := 1) ?hd (cs := #[.int .i64 a0_0, .slice A0_1 l0_1.length c0_1, .slice A0_2 l0_2.length c0_2, .slice A0_3 l0_3.length c0_3]) (t := 47) ?hr ?_; (case hd => rfl); (case hg => rfl); (case hr => first | (go_simp; done) | (go_simp; rfl)); intro gb394 hg w2 hbox hb; have n0_ := Aside0.mk (below_step (by repeat (first | (with_reducible first | exact HB.out | apply below_alloc | apply pw_below_drewN | apply below_drew1) | exact HB.out)) hb); have n1_ := Aside0.mk (hbox); have n2_ := Aside0.mk ((by rw [hg]; exact (below_size (by repeat (first | (with_reducible first | exact HB.out | apply below_alloc | apply pw_below_drewN | apply below_drew1) | exact HB.out))) : w.heap.size ≤ gb394)); have n3_ := Aside0.mk ((by rw [hg]; exact (below_size (by repeat (first | (with_reducible first | exact HB.out | apply below_alloc | apply pw_below_drewN | apply below_drew1) | exact HB.out))) : w.heap.size ≤ gb394)); clear HB; have HB := n0_; have BK394 := n1_; have GW394 := n2_; have GE394 := n3_; clear n0_ n1_ n2_ n3_; clear hb hbox hg))
 go_loopg [4, 5, 6] k (fun kq v4 v5 v6 w' => ∃ (x4_1 : Int) (x5_1 : Int) (x6_1 : Int), v4 = .int .i64 x4_1 ∧ v5 = .int .i64 x5_1 ∧ v6 = .int .i64 x6_1 ∧ Aside0 (goboref11_CountPat.l0 kq x4_1 x5_1 x6_1 a0_0 l0_1 l0_2 l0_3 = some (r1, r2)) ∧ Aside0 (kq ≤ k) ∧ Aside0 (w'.heap[gb394]? = some (.cells #[.int .i64 a0_0, (.slice A0_1 l0_1.length c0_1), (.slice A0_2 l0_2.length c0_2), (.slice A0_3 l0_3.length c0_3)] 47 (0, 0))) ∧ Aside0 (Below w.heap.size w w'))
 case atStart => exact ⟨(1), (0), (0), (by first | rfl | (simp; done) | (simp [*]; done)), (by first | rfl | (simp; done) | (simp [*]; done)), (by first | rfl | (simp; done) | (simp [*]; done)), H', ⟨Nat.le_refl _⟩, ⟨by (with_reducible repeat (first | refine blk_drewN ?_ _ | refine blk_drew ?_ | refine blk_alloc ?_ _)); exact BK394.out⟩, ⟨by repeat (first | (with_reducible first | exact HB.out | apply below_alloc | apply pw_below_drewN | apply below_drew1 | refine below_set ?_ GE394.out) | exact HB.out)⟩⟩
 case round =>
  clear H'
  obtain ⟨x4_1, x5_1, x6_1, rfl, rfl, rfl, HA, HK1, BK394, HB⟩ := hrel
  cases gk with
  | zero => exact absurd HA.out (by simp [goboref11_CountPat.l0])
  | succ k1 =>
   have H := HA.out
   clear HA
   simp only [goboref11_CountPat.l0] at H
   by_cases c3 : x6_1 < (l0_3.length : Int)
   · rw [if_pos c3] at H
     have c3b0 : decide (x6_1 < (l0_3.length : Int)) = true := decide_eq_true c3
     clear c3
     by_cases c4 : x4_1 < 2000
     · rw [if_pos c4] at H
       have c4b0 : decide (x4_1 < 2000) = true := decide_eq_true c4
       clear c4
       by_cases c5 : 0 ≤ x6_1
       · rw [if_pos c5] at H
         have c5b0 : decide (0 ≤ x6_1) = true := decide_eq_true c5
         clear c5
         replace H := Option.bind_eq_some_iff.mp H
         obtain ⟨⟨t396, t397⟩, A60, H⟩ := H
         replace H : (goboref11_CountPat.l0 k1 (wrap64 (x4_1 + t396)) (mx x5_1 t397) (wrap64 (x6_1 + 1)) a0_0 l0_1 l0_2 l0_3) = some (r1, r2) := H
         have A6 := Aside0.mk A60
         clear A60
         obtain ⟨ji7, hji7⟩ : ∃ j_ : Int, (mx x5_1 t397) = j_ := ⟨_, rfl⟩
         replace H : (goboref11_CountPat.l0 k1 (wrap64 (x4_1 + t396)) ji7 (wrap64 (x6_1 + 1)) a0_0 l0_1 l0_2 l0_3) = some (r1, r2) := by first | (rw [hji7] at H; exact H) | (simp only [hji7] at H ⊢; exact H)
         (try rw [hji7] at A6)
         have hji7_ : (if x5_1 < t397 then t397 else x5_1) = ji7 := hji7
         have H' := Aside0.mk H
         clear H
         have hcz8_0 : wr.cell? ⟨gb394, 0, none⟩ = some (.int .i64 a0_0) := (blk_cell BK394.out 0).trans rfl
         have hcz8_1 : wr.cell? ⟨gb394, 1, none⟩ = some (.slice A0_1 l0_1.length c0_1) := (blk_cell BK394.out 1).trans rfl
         have hcz8_2 : wr.cell? ⟨gb394, 2, none⟩ = some (.slice A0_2 l0_2.length c0_2) := (blk_cell BK394.out 2).trans rfl
         have hcz8_3 : wr.cell? ⟨gb394, 3, none⟩ = some (.slice A0_3 l0_3.length c0_3) := (blk_cell BK394.out 3).trans rfl
         have hfz8_0 := blk_frozen BK394.out 0
         have hfz8_1 := blk_frozen BK394.out 1
         have hfz8_2 := blk_frozen BK394.out 2
         have hfz8_3 := blk_frozen BK394.out 3
         have p395 : 0 ≤ (x6_1 : Int) := of_decide_eq_true (by first | (with_reducible assumption) | assumption)
         have q395 : x6_1 < (l0_3.length : Int) := of_decide_eq_true (by first | (with_reducible assumption) | assumption)
         obtain ⟨ad395, A395_1, c395_1, A395_2, c395_2, A395_3, c395_3, e395, hx395_0, hx395_1, hx395_2, hx395_3, hl395_1, hi395_1, hl395_2, hi395_2, hl395_3, hi395_3⟩ := at_T47 HR0_3.out x6_1 p395 q395
         cases e395
         replace hx395_0 := (HB.out.cell (World.block_lt_of_cell? w _ hx395_0)).trans hx395_0
         replace hx395_1 := (HB.out.cell (World.block_lt_of_cell? w _ hx395_1)).trans hx395_1
         replace hx395_2 := (HB.out.cell (World.block_lt_of_cell? w _ hx395_2)).trans hx395_2
         replace hx395_3 := (HB.out.cell (World.block_lt_of_cell? w _ hx395_3)).trans hx395_3
         have HR395_1 := Aside0.mk hi395_1
         have HC395_1 := Aside0.mk hl395_1
         clear hi395_1 hl395_1
         have HR395_2 := Aside0.mk hi395_2
         have HC395_2 := Aside0.mk hl395_2
         clear hi395_2 hl395_2
         have HR395_3 := Aside0.mk hi395_3
         have HC395_3 := Aside0.mk hl395_3
         clear hi395_3 hl395_3
         replace p395 := eq_true p395
         replace q395 := eq_true q395
         go_wp2_with (first | ((with_reducible refine gate_callee (f := 56) rfl ?_); refine goesL_ (some 26) rfl rfl Tryz.func56 (by kernel_rfl) rfl #[.agg #[.int .i64 ((rd_T47 l0_3 x6_1).f0), .slice A395_1 ((rd_T47 l0_3 x6_1).f1).length c395_1, .slice A395_2 ((rd_T47 l0_3 x6_1).f2).length c395_2, .slice A395_3 ((rd_T47 l0_3 x6_1).f3).length c395_3]] rfl (by (try simp only [List.map_toArray, List.map_cons, List.map_nil]); first | done | rfl | (simp only [List.length_drop, List.length_take]; rfl)) ?_; (with_reducible refine (ih k1 (by have := HK1.out; omega) ((rd_T47 l0_3 x6_1).f0) _ _ ((rd_T47 l0_3 x6_1).f1) _ _ ((rd_T47 l0_3 x6_1).f2) _ _ ((rd_T47 l0_3 x6_1).f3) t396 t397 _ ?side1 ?side2 ?side3 ?side4 ?side5 ?side6 A6.out).mono ?_); (case side1 => repeat (first | exact (Kd.C_below HR395_1.out HB.out) | (with_reducible refine Kd.C_alloc ?_ _) | (with_reducible refine Kd.C_drewN ?_ _) | (with_reducible refine Kd.C_drew ?_))); (case side2 => exact HC395_1.out); (case side3 => repeat (first | exact (Kd.C_below HR395_2.out HB.out) | (with_reducible refine Kd.C_alloc ?_ _) | (with_reducible refine Kd.C_drewN ?_ _) | (with_reducible refine Kd.C_drew ?_))); (case side4 => exact HC395_2.out); (case side5 => repeat (first | exact (Kd.C_below HR395_3.out HB.out) | (with_reducible refine Kd.C_alloc ?_ _) | (with_reducible refine Kd.C_drewN ?_ _) | (with_reducible refine Kd.C_drew ?_))); (case side6 => exact HC395_3.out); rintro e w9 ⟨rfl, hb⟩; refine ⟨_, rfl, ?_⟩; have n0_ := Aside0.mk (blk_below (g := gb394) (o := .cells #[.int .i64 a0_0, .slice A0_1 l0_1.length c0_1, .slice A0_2 l0_2.length c0_2, .slice (some ad395) l0_3.length c0_3] 47 (0, 0)) (by (with_reducible repeat (first | refine blk_drewN ?_ _ | refine blk_drew ?_ | refine blk_alloc ?_ _)); exact BK394.out) hb); have n1_ := Aside0.mk (below_step (by repeat (first | (with_reducible first | exact HB.out | apply below_alloc | apply pw_below_drewN | apply below_drew1 | refine below_set ?_ GE394.out) | exact HB.out)) hb); clear BK394; clear HB; have BK394 := n0_; have HB := n1_; clear n0_ n1_; (try clear hb); (try clear hb2); (try clear hk); (try clear hi)))
         go_roundg k1
         case measure => have := HK1.out; omega
         case rel => exact ⟨(wrap64 (x4_1 + t396)), (ji7), (wrap64 (x6_1 + 1)), (by first | rfl | (simp; done) | (simp [*]; done)), (by first | rfl | (simp; done) | (simp only [← hji7] <;> (first | rfl | simp)) | (simp [*]; done)), (by first | rfl | (simp; done) | (simp [*]; done)), H', ⟨by have := HK1.out; omega⟩, ⟨by (with_reducible repeat (first | refine blk_drewN ?_ _ | refine blk_drew ?_ | refine blk_alloc ?_ _)); exact BK394.out⟩, ⟨by repeat (first | (with_reducible first | exact HB.out | apply below_alloc | apply pw_below_drewN | apply below_drew1 | refine below_set ?_ GE394.out) | exact HB.out)⟩⟩
       · rw [if_neg c5] at H
         exact absurd H (by simp)
     · rw [if_neg c4] at H
       have c4b0 : decide (x4_1 < 2000) = false := decide_eq_false c4
       clear c4
       simp only [Option.some.injEq, Prod.mk.injEq] at H
       obtain ⟨rfl, rfl⟩ := H
       have hcz10_0 : wr.cell? ⟨gb394, 0, none⟩ = some (.int .i64 a0_0) := (blk_cell BK394.out 0).trans rfl
       have hcz10_1 : wr.cell? ⟨gb394, 1, none⟩ = some (.slice A0_1 l0_1.length c0_1) := (blk_cell BK394.out 1).trans rfl
       have hcz10_2 : wr.cell? ⟨gb394, 2, none⟩ = some (.slice A0_2 l0_2.length c0_2) := (blk_cell BK394.out 2).trans rfl
       have hcz10_3 : wr.cell? ⟨gb394, 3, none⟩ = some (.slice A0_3 l0_3.length c0_3) := (blk_cell BK394.out 3).trans rfl
       have hfz10_0 := blk_frozen BK394.out 0
       have hfz10_1 := blk_frozen BK394.out 1
       have hfz10_2 := blk_frozen BK394.out 2
       have hfz10_3 := blk_frozen BK394.out 3
       go_wp2
       go_ret2
       exact ⟨by first | rfl | (simp [errW_none, errW_some] <;> rfl) | (simp [*, errW_none, errW_some] <;> rfl), by repeat (first | (with_reducible first | exact HB.out | apply below_alloc | apply pw_below_drewN | apply below_drew1 | refine below_set ?_ GE394.out) | exact HB.out)⟩
   · rw [if_neg c3] at H
     have c3b0 : decide (x6_1 < (l0_3.length : Int)) = false := decide_eq_false c3
     clear c3
     simp only [Option.some.injEq, Prod.mk.injEq] at H
     obtain ⟨rfl, rfl⟩ := H
     have hcz11_0 : wr.cell? ⟨gb394, 0, none⟩ = some (.int .i64 a0_0) := (blk_cell BK394.out 0).trans rfl
     have hcz11_1 : wr.cell? ⟨gb394, 1, none⟩ = some (.slice A0_1 l0_1.length c0_1) := (blk_cell BK394.out 1).trans rfl
     have hcz11_2 : wr.cell? ⟨gb394, 2, none⟩ = some (.slice A0_2 l0_2.length c0_2) := (blk_cell BK394.out 2).trans rfl
     have hcz11_3 : wr.cell? ⟨gb394, 3, none⟩ = some (.slice A0_3 l0_3.length c0_3) := (blk_cell BK394.out 3).trans rfl
     have hfz11_0 := blk_frozen BK394.out 0
     have hfz11_1 := blk_frozen BK394.out 1
     have hfz11_2 := blk_frozen BK394.out 2
     have hfz11_3 := blk_frozen BK394.out 3
     go_wp2
     go_ret2
     exact ⟨by first | rfl | (simp [errW_none, errW_some] <;> rfl) | (simp [*, errW_none, errW_some] <;> rfl), by repeat (first | (with_reducible first | exact HB.out | apply below_alloc | apply pw_below_drewN | apply below_drew1 | refine below_set ?_ GE394.out) | exact HB.out)⟩
def goboref11_texts.l0 : Nat → List ByteArray → List ByteArray → Int → Option (Bool)
 | 0, _, _, _ => none
 | k + 1, x0, x1, x5 => if x5 < (x0.length : Int) then (if 0 ≤ x5 then (if x5 < (x1.length : Int) then (if (rdOf ByteArray.empty x0 x5).toList = (rdOf ByteArray.empty x1 x5).toList then (goboref11_texts.l0 k x0 x1 (wrap64 (x5 + 1))) else (some false)) else (none)) else (none)) else (some true)
def goboref11_texts.f (k : Nat) (l0 : List ByteArray) (l1 : List ByteArray) : Option (Bool) := if (l0.length : Int) = (l1.length : Int) then (goboref11_texts.l0 k l0 l1 0) else (some false)
theorem goboref11_texts.mono_l : ∀ k, (∀ y0 y1 y2, LeO (goboref11_texts.l0 k y0 y1 y2) (goboref11_texts.l0 (k + 1) y0 y1 y2))
 | 0 => fun _ _ _ r h => by simp [goboref11_texts.l0] at h
 | k + 1 => by
  have ih0 := goboref11_texts.mono_l k
  · intro y0 y1 y2
    unfold goboref11_texts.l0
    repeat' first
    | (with_reducible exact ih0 _ _ _)
    | (with_reducible exact LeO.refl _)
    | (with_reducible exact LeO.none _)
    | (with_reducible refine LeO.ite ?_ ?_)
    | (with_reducible refine LeO.bind ?_ (fun _ => ?_))
    | exact ih0 _ _ _
    | exact LeO.none _
    | refine LeO.ite ?_ ?_
    | refine LeO.bind ?_ (fun _ => ?_)
theorem goboref11_texts.mono : ∀ a0 a1 k, LeO (goboref11_texts.f k a0 a1) (goboref11_texts.f (k + 1) a0 a1) := by
 intro a0 a1 k
 have ih0 := goboref11_texts.mono_l k
 unfold goboref11_texts.f
 repeat' first
  | (with_reducible exact ih0 _ _ _)
  | (with_reducible exact LeO.refl _)
  | (with_reducible exact LeO.none _)
  | (with_reducible refine LeO.ite ?_ ?_)
  | (with_reducible refine LeO.bind ?_ (fun _ => ?_))
  | exact ih0 _ _ _
  | exact LeO.none _
  | refine LeO.ite ?_ ?_
  | refine LeO.bind ?_ (fun _ => ?_)
set_option maxHeartbeats 8000000 in
set_option maxRecDepth 100000 in
theorem goboref11_texts.calls (k : Nat) (A0 : Option Addr) (c0 : Nat) (l0 : List ByteArray) (A1 : Option Addr) (c1 : Nat) (l1 : List ByteArray) (r : Bool) (w : World) (hr0 : Kd.C Kd.string w A0 l0.length l0) (hc0 : l0.length ≤ c0) (hr1 : Kd.C Kd.string w A1 l1.length l1) (hc1 : l1.length ≤ c1) (h : goboref11_texts.f k l0 l1 = some r) :
 Calls Tryz.prog 34 #[.slice A0 l0.length c0, .slice A1 l1.length c1] w fun e w' => e = .returned (.bool r) ∧ Drawn0 w w' := by
 have HR0 := Aside0.mk hr0
 have HC0 := Aside0.mk hc0
 clear hr0 hc0
 have HR1 := Aside0.mk hr1
 have HC1 := Aside0.mk hc1
 clear hr1 hc1
 have H : (if (l0.length : Int) = (l1.length : Int) then (goboref11_texts.l0 k l0 l1 0) else (some false)) = some r := h
 clear h
 by_cases c3 : (l0.length : Int) = (l1.length : Int)
 · rw [if_pos c3] at H
   have c3b0 : ((l0.length : Int) == (l1.length : Int)) = true := beq_iff_eq.mpr c3
   have c3b1 : ((l0.length : Int) != (l1.length : Int)) = false := bne_eq_false_iff_eq.mpr c3
   have c3b2 : (l0.length == l1.length) = true := by first | simpa using c3 | (simp at c3 ⊢; omega)
   clear c3
   have H' := Aside0.mk H
   clear H
   go_enter Tryz.func34, Tryz.ntmps34
   go_wp2
   repeat (go_quiet (fail); try go_wp2)
   go_loopg [5] k (fun kq v5 w' => ∃ (x5_1 : Int), v5 = .int .i64 x5_1 ∧ Aside0 (goboref11_texts.l0 kq l0 l1 x5_1 = some r) ∧ Aside0 (kq ≤ k) ∧ Drawn0 w w')
   case atStart => exact ⟨(0), (by first | rfl | (simp; done) | (simp [*]; done)), H', ⟨Nat.le_refl _⟩, by repeat (first | exact Drawn0.refl _ | apply Drawn0.step)⟩
   case round =>
    clear H'
    try clear c1
    try clear c3
    try clear c3b0
    try clear c3b1
    try clear c3b2
    obtain ⟨x5_1, rfl, HA, HK1, ⟨m1, rfl⟩⟩ := hrel
    cases gk with
    | zero => exact absurd HA.out (by simp [goboref11_texts.l0])
    | succ k1 =>
     have H := HA.out
     clear HA
     simp only [goboref11_texts.l0] at H
     by_cases c4 : x5_1 < (l0.length : Int)
     · rw [if_pos c4] at H
       have c4b0 : decide (x5_1 < (l0.length : Int)) = true := decide_eq_true c4
       clear c4
       by_cases c5 : 0 ≤ x5_1
       · rw [if_pos c5] at H
         have c5b0 : decide (0 ≤ x5_1) = true := decide_eq_true c5
         clear c5
         by_cases c6 : x5_1 < (l1.length : Int)
         · rw [if_pos c6] at H
           have c6b0 : decide (x5_1 < (l1.length : Int)) = true := decide_eq_true c6
           clear c6
           by_cases c7 : (rdOf ByteArray.empty l0 x5_1).toList = (rdOf ByteArray.empty l1 x5_1).toList
           · rw [if_pos c7] at H
             have c7b0 : ((rdOf ByteArray.empty l0 x5_1).toList == (rdOf ByteArray.empty l1 x5_1).toList) = true := beq_iff_eq.mpr c7
             have c7b1 : ((rdOf ByteArray.empty l0 x5_1).toList != (rdOf ByteArray.empty l1 x5_1).toList) = false := bne_eq_false_iff_eq.mpr c7
             clear c7
             have H' := Aside0.mk H
             clear H
             have p427 : 0 ≤ (x5_1 : Int) := of_decide_eq_true (by first | (with_reducible assumption) | assumption)
             have q427 : x5_1 < (l0.length : Int) := of_decide_eq_true (by first | (with_reducible assumption) | assumption)
             obtain ⟨ad427, e427, hx427_0⟩ := Kd.at_string HR0.out x5_1 p427 q427
             cases e427
             replace p427 := eq_true p427
             replace q427 := eq_true q427
             have p428 : 0 ≤ (x5_1 : Int) := of_decide_eq_true (by first | (with_reducible assumption) | assumption)
             have q428 : x5_1 < (l1.length : Int) := of_decide_eq_true (by first | (with_reducible assumption) | assumption)
             obtain ⟨ad428, e428, hx428_0⟩ := Kd.at_string HR1.out x5_1 p428 q428
             cases e428
             replace p428 := eq_true p428
             replace q428 := eq_true q428
             go_wp2
             repeat (go_quiet (fail); try go_wp2)
             go_roundg k1
             case measure => have := HK1.out; omega
             case rel => exact ⟨(wrap64 (x5_1 + 1)), (by first | rfl | (simp; done) | (simp [*]; done)), H', ⟨by have := HK1.out; omega⟩, by repeat (first | exact Drawn0.refl _ | apply Drawn0.step)⟩
           · rw [if_neg c7] at H
             have c7b0 : ((rdOf ByteArray.empty l0 x5_1).toList == (rdOf ByteArray.empty l1 x5_1).toList) = false := beq_eq_false_iff_ne.mpr c7
             have c7b1 : ((rdOf ByteArray.empty l0 x5_1).toList != (rdOf ByteArray.empty l1 x5_1).toList) = true := bne_iff_ne.mpr c7
             obtain rfl := Option.some.inj H
             have p427 : 0 ≤ (x5_1 : Int) := of_decide_eq_true (by first | (with_reducible assumption) | assumption)
             have q427 : x5_1 < (l0.length : Int) := of_decide_eq_true (by first | (with_reducible assumption) | assumption)
             obtain ⟨ad427, e427, hx427_0⟩ := Kd.at_string HR0.out x5_1 p427 q427
             cases e427
             replace p427 := eq_true p427
             replace q427 := eq_true q427
             have p428 : 0 ≤ (x5_1 : Int) := of_decide_eq_true (by first | (with_reducible assumption) | assumption)
             have q428 : x5_1 < (l1.length : Int) := of_decide_eq_true (by first | (with_reducible assumption) | assumption)
             obtain ⟨ad428, e428, hx428_0⟩ := Kd.at_string HR1.out x5_1 p428 q428
             cases e428
             replace p428 := eq_true p428
             replace q428 := eq_true q428
             go_wp2
             repeat (go_quiet (fail); try go_wp2)
             go_ret
             exact ⟨by first | rfl | (simp; done) | (simp [*]; done), by repeat (first | exact Drawn0.refl _ | apply Drawn0.step)⟩
         · rw [if_neg c6] at H
           exact absurd H (by simp)
       · rw [if_neg c5] at H
         exact absurd H (by simp)
     · rw [if_neg c4] at H
       have c4b0 : decide (x5_1 < (l0.length : Int)) = false := decide_eq_false c4
       clear c4
       obtain rfl := Option.some.inj H
       go_wp2
       repeat (go_quiet (fail); try go_wp2)
       go_ret
       exact ⟨by first | rfl | (simp; done) | (simp [*]; done), by repeat (first | exact Drawn0.refl _ | apply Drawn0.step)⟩
 · rw [if_neg c3] at H
   have c3b0 : ((l0.length : Int) == (l1.length : Int)) = false := beq_eq_false_iff_ne.mpr c3
   have c3b1 : ((l0.length : Int) != (l1.length : Int)) = true := bne_iff_ne.mpr c3
   have c3b2 : (l0.length == l1.length) = false := by first | simpa using c3 | (simp at c3 ⊢; omega)
   obtain rfl := Option.some.inj H
   go_enter Tryz.func34, Tryz.ntmps34
   go_wp2
   repeat (go_quiet (fail); try go_wp2)
   go_ret
   exact ⟨by first | rfl | (simp; done) | (simp [*]; done), by repeat (first | exact Drawn0.refl _ | apply Drawn0.step)⟩
mutual
def goboref11_SamePat.j0 : Nat → Bool → Int → List ByteArray → List ByteArray → List (S47) → Int → List ByteArray → List ByteArray → List (S47) → Option (Bool)
 | 0, _, _, _, _, _, _, _, _, _ => none
 | k + 1, x35, x430000, x430001, x430002, x430003, x431000, x431001, x431002, x431003 => if x35 = true then (some false) else (goboref11_SamePat.l0 k 0 x430000 x430001 x430002 x430003 x431000 x431001 x431002 x431003)
def goboref11_SamePat.l0 : Nat → Int → Int → List ByteArray → List ByteArray → List (S47) → Int → List ByteArray → List ByteArray → List (S47) → Option (Bool)
 | 0, _, _, _, _, _, _, _, _, _ => none
 | k + 1, x5, x430000, x430001, x430002, x430003, x431000, x431001, x431002, x431003 => if x5 < (x430003.length : Int) then (if 0 ≤ x5 then (if x5 < (x431003.length : Int) then ((goboref11_SamePat.f k ((rd_T47 x430003 x5).f0) ((rd_T47 x430003 x5).f1) ((rd_T47 x430003 x5).f2) ((rd_T47 x430003 x5).f3) ((rd_T47 x431003 x5).f0) ((rd_T47 x431003 x5).f1) ((rd_T47 x431003 x5).f2) ((rd_T47 x431003 x5).f3)).bind fun t435 => (if t435 = true then (goboref11_SamePat.l0 k (wrap64 (x5 + 1)) x430000 x430001 x430002 x430003 x431000 x431001 x431002 x431003) else (some false))) else (none)) else (none)) else (some true)
def goboref11_SamePat.f : Nat → Int → List ByteArray → List ByteArray → List (S47) → Int → List ByteArray → List ByteArray → List (S47) → Option (Bool)
 | 0, _, _, _, _, _, _, _, _ => none
 | k + 1, a0_0, l0_1, l0_2, l0_3, a1_0, l1_1, l1_2, l1_3 => if a0_0 = a1_0 then (if (l0_3.length : Int) = (l1_3.length : Int) then ((goboref11_texts.f k l0_1 l1_1).bind fun t431 => (if t431 = true then ((goboref11_texts.f k l0_2 l1_2).bind fun t432 => (goboref11_SamePat.j0 k (!t432) a0_0 l0_1 l0_2 l0_3 a1_0 l1_1 l1_2 l1_3)) else (goboref11_SamePat.j0 k true a0_0 l0_1 l0_2 l0_3 a1_0 l1_1 l1_2 l1_3))) else (goboref11_SamePat.j0 k true a0_0 l0_1 l0_2 l0_3 a1_0 l1_1 l1_2 l1_3)) else (goboref11_SamePat.j0 k true a0_0 l0_1 l0_2 l0_3 a1_0 l1_1 l1_2 l1_3)
end
theorem goboref11_SamePat.mono_l : ∀ k, (∀ y0 y1 y2 y3 y4 y5 y6 y7, LeO (goboref11_SamePat.f k y0 y1 y2 y3 y4 y5 y6 y7) (goboref11_SamePat.f (k + 1) y0 y1 y2 y3 y4 y5 y6 y7)) ∧ (∀ y0 y1 y2 y3 y4 y5 y6 y7 y8, LeO (goboref11_SamePat.j0 k y0 y1 y2 y3 y4 y5 y6 y7 y8) (goboref11_SamePat.j0 (k + 1) y0 y1 y2 y3 y4 y5 y6 y7 y8)) ∧ (∀ y0 y1 y2 y3 y4 y5 y6 y7 y8, LeO (goboref11_SamePat.l0 k y0 y1 y2 y3 y4 y5 y6 y7 y8) (goboref11_SamePat.l0 (k + 1) y0 y1 y2 y3 y4 y5 y6 y7 y8))
 | 0 => ⟨fun _ _ _ _ _ _ _ _ r h => by simp [goboref11_SamePat.f] at h, fun _ _ _ _ _ _ _ _ _ r h => by simp [goboref11_SamePat.j0] at h, fun _ _ _ _ _ _ _ _ _ r h => by simp [goboref11_SamePat.l0] at h⟩
 | k + 1 => by
  obtain ⟨ih0, ih1, ih2⟩ := goboref11_SamePat.mono_l k
  refine ⟨?_, ?_, ?_⟩
  · intro y0 y1 y2 y3 y4 y5 y6 y7
    unfold goboref11_SamePat.f
    repeat' first
    | (with_reducible exact ih0 _ _ _ _ _ _ _ _)
    | (with_reducible exact ih1 _ _ _ _ _ _ _ _ _)
    | (with_reducible exact ih2 _ _ _ _ _ _ _ _ _)
    | (with_reducible exact goboref11_texts.mono _ _ _)
    | (with_reducible exact LeO.refl _)
    | (with_reducible exact LeO.none _)
    | (with_reducible refine LeO.ite ?_ ?_)
    | (with_reducible refine LeO.bind ?_ (fun _ => ?_))
    | exact ih0 _ _ _ _ _ _ _ _
    | exact ih1 _ _ _ _ _ _ _ _ _
    | exact ih2 _ _ _ _ _ _ _ _ _
    | exact goboref11_texts.mono _ _ _
    | exact LeO.none _
    | refine LeO.ite ?_ ?_
    | refine LeO.bind ?_ (fun _ => ?_)
  · intro y0 y1 y2 y3 y4 y5 y6 y7 y8
    unfold goboref11_SamePat.j0
    repeat' first
    | (with_reducible exact ih0 _ _ _ _ _ _ _ _)
    | (with_reducible exact ih1 _ _ _ _ _ _ _ _ _)
    | (with_reducible exact ih2 _ _ _ _ _ _ _ _ _)
    | (with_reducible exact goboref11_texts.mono _ _ _)
    | (with_reducible exact LeO.refl _)
    | (with_reducible exact LeO.none _)
    | (with_reducible refine LeO.ite ?_ ?_)
    | (with_reducible refine LeO.bind ?_ (fun _ => ?_))
    | exact ih0 _ _ _ _ _ _ _ _
    | exact ih1 _ _ _ _ _ _ _ _ _
    | exact ih2 _ _ _ _ _ _ _ _ _
    | exact goboref11_texts.mono _ _ _
    | exact LeO.none _
    | refine LeO.ite ?_ ?_
    | refine LeO.bind ?_ (fun _ => ?_)
  · intro y0 y1 y2 y3 y4 y5 y6 y7 y8
    unfold goboref11_SamePat.l0
    repeat' first
    | (with_reducible exact ih0 _ _ _ _ _ _ _ _)
    | (with_reducible exact ih1 _ _ _ _ _ _ _ _ _)
    | (with_reducible exact ih2 _ _ _ _ _ _ _ _ _)
    | (with_reducible exact goboref11_texts.mono _ _ _)
    | (with_reducible exact LeO.refl _)
    | (with_reducible exact LeO.none _)
    | (with_reducible refine LeO.ite ?_ ?_)
    | (with_reducible refine LeO.bind ?_ (fun _ => ?_))
    | exact ih0 _ _ _ _ _ _ _ _
    | exact ih1 _ _ _ _ _ _ _ _ _
    | exact ih2 _ _ _ _ _ _ _ _ _
    | exact goboref11_texts.mono _ _ _
    | exact LeO.none _
    | refine LeO.ite ?_ ?_
    | refine LeO.bind ?_ (fun _ => ?_)
theorem goboref11_SamePat.mono : ∀ a0 a1 a2 a3 a4 a5 a6 a7 k, LeO (goboref11_SamePat.f k a0 a1 a2 a3 a4 a5 a6 a7) (goboref11_SamePat.f (k + 1) a0 a1 a2 a3 a4 a5 a6 a7) := by
 intro a0 a1 a2 a3 a4 a5 a6 a7 k
 obtain ⟨ih0, ih1, ih2⟩ := goboref11_SamePat.mono_l k
 exact ih0 a0 a1 a2 a3 a4 a5 a6 a7
def goboref11_SamePat.T6 : Bool × List (List Nat × List Nat) := (true, [([], []), ([0], [0]), ([], []), ([1, 2], [1, 2]), ([3], [3]), ([], []), ([5], [5]), ([], []), ([6, 7], [6, 7]), ([8], [8]), ([4, 9], [4, 9]), ([10], [10])])
def goboref11_SamePat.B6 : List Nat := [0, 1, 0, 7, 15, 0, 32, 0, 224, 480, 1023, 2047]
theorem goboref11_SamePat.tab6 : rtab .any (opsOf Tryz.f35 6) = goboref11_SamePat.T6 := by kernel_rfl
theorem goboref11_SamePat.bits6 : waitsOk goboref11_SamePat.T6.2 goboref11_SamePat.B6 = true := by kernel_rfl
set_option maxHeartbeats 8000000 in
set_option maxRecDepth 100000 in
theorem goboref11_SamePat.calls (k : Nat) : ∀ (a0_0 : Int) (A0_1 : Option Addr) (c0_1 : Nat) (l0_1 : List ByteArray) (A0_2 : Option Addr) (c0_2 : Nat) (l0_2 : List ByteArray) (A0_3 : Option Addr) (c0_3 : Nat) (l0_3 : List (S47)) (a1_0 : Int) (A1_1 : Option Addr) (c1_1 : Nat) (l1_1 : List ByteArray) (A1_2 : Option Addr) (c1_2 : Nat) (l1_2 : List ByteArray) (A1_3 : Option Addr) (c1_3 : Nat) (l1_3 : List (S47)) (r : Bool) (w : World) (hr0_1 : Kd.C Kd.string w A0_1 l0_1.length l0_1) (hc0_1 : l0_1.length ≤ c0_1) (hr0_2 : Kd.C Kd.string w A0_2 l0_2.length l0_2) (hc0_2 : l0_2.length ≤ c0_2) (hr0_3 : Kd.C k47 w A0_3 l0_3.length l0_3) (hc0_3 : l0_3.length ≤ c0_3) (hr1_1 : Kd.C Kd.string w A1_1 l1_1.length l1_1) (hc1_1 : l1_1.length ≤ c1_1) (hr1_2 : Kd.C Kd.string w A1_2 l1_2.length l1_2) (hc1_2 : l1_2.length ≤ c1_2) (hr1_3 : Kd.C k47 w A1_3 l1_3.length l1_3) (hc1_3 : l1_3.length ≤ c1_3) (h : goboref11_SamePat.f k a0_0 l0_1 l0_2 l0_3 a1_0 l1_1 l1_2 l1_3 = some r),
 Calls Tryz.prog 35 #[.agg #[.int .i64 a0_0, .slice A0_1 l0_1.length c0_1, .slice A0_2 l0_2.length c0_2, .slice A0_3 l0_3.length c0_3], .agg #[.int .i64 a1_0, .slice A1_1 l1_1.length c1_1, .slice A1_2 l1_2.length c1_2, .slice A1_3 l1_3.length c1_3]] w fun e w' => e = .returned (.bool r) ∧ Below w.heap.size w w' := by
 induction k using Nat.strongRecOn with
 | _ k ih =>
 intro a0_0 A0_1 c0_1 l0_1 A0_2 c0_2 l0_2 A0_3 c0_3 l0_3 a1_0 A1_1 c1_1 l1_1 A1_2 c1_2 l1_2 A1_3 c1_3 l1_3 r w hr0_1 hc0_1 hr0_2 hc0_2 hr0_3 hc0_3 hr1_1 hc1_1 hr1_2 hc1_2 hr1_3 hc1_3 h
 cases k with
 | zero => exact absurd h (by simp [goboref11_SamePat.f])
 | succ k =>
 simp only [goboref11_SamePat.f] at h
 have hu47 := Tryz.underlying47
 have HR0_1 := Aside0.mk hr0_1
 have HC0_1 := Aside0.mk hc0_1
 clear hr0_1 hc0_1
 have HR0_2 := Aside0.mk hr0_2
 have HC0_2 := Aside0.mk hc0_2
 clear hr0_2 hc0_2
 have HR0_3 := Aside0.mk hr0_3
 have HC0_3 := Aside0.mk hc0_3
 clear hr0_3 hc0_3
 have HR1_1 := Aside0.mk hr1_1
 have HC1_1 := Aside0.mk hc1_1
 clear hr1_1 hc1_1
 have HR1_2 := Aside0.mk hr1_2
 have HC1_2 := Aside0.mk hc1_2
 clear hr1_2 hc1_2
 have HR1_3 := Aside0.mk hr1_3
 have HC1_3 := Aside0.mk hc1_3
 clear hr1_3 hc1_3
 have HB := Aside0.mk (Below.refl w.heap.size w)
 have H : (if a0_0 = a1_0 then (if (l0_3.length : Int) = (l1_3.length : Int) then ((goboref11_texts.f k l0_1 l1_1).bind fun t431 => (if t431 = true then ((goboref11_texts.f k l0_2 l1_2).bind fun t432 => (goboref11_SamePat.j0 k (!t432) a0_0 l0_1 l0_2 l0_3 a1_0 l1_1 l1_2 l1_3)) else (goboref11_SamePat.j0 k true a0_0 l0_1 l0_2 l0_3 a1_0 l1_1 l1_2 l1_3))) else (goboref11_SamePat.j0 k true a0_0 l0_1 l0_2 l0_3 a1_0 l1_1 l1_2 l1_3)) else (goboref11_SamePat.j0 k true a0_0 l0_1 l0_2 l0_3 a1_0 l1_1 l1_2 l1_3)) = some r := h
 clear h
 have HC3 := Aside0.mk H
 clear H
 go_enter Tryz.func35, Tryz.ntmps35
 go_upto_region 1 with (first | ((with_reducible refine gate_dst (N := 2) rfl ?_); (try (refine gate_guard (by rfl) ?_; dsimp only)); refine box_event ?hg (N := 2) ?hd (cs := #[.int .i64 a0_0, .slice A0_1 l0_1.length c0_1, .slice A0_2 l0_2.length c0_2, .slice A0_3 l0_3.length c0_3]) (t := 47) ?hr ?_; (case hd => rfl); (case hg => rfl); (case hr => first | (go_simp; done) | (go_simp; rfl)); intro gb429 hg w4 hbox hb; have n0_ := Aside0.mk (below_step (by repeat (first | (with_reducible first | exact HB.out | apply below_alloc | apply pw_below_drewN | apply below_drew1) | exact HB.out)) hb); have n1_ := Aside0.mk (hbox); have n2_ := Aside0.mk ((by rw [hg]; exact (below_size (by repeat (first | (with_reducible first | exact HB.out | apply below_alloc | apply pw_below_drewN | apply below_drew1) | exact HB.out))) : w.heap.size ≤ gb429)); have n3_ := Aside0.mk ((by rw [hg]; exact (below_size (by repeat (first | (with_reducible first | exact HB.out | apply below_alloc | apply pw_below_drewN | apply below_drew1) | exact HB.out))) : w.heap.size ≤ gb429)); clear HB; have HB := n0_; have BK429 := n1_; have GW429 := n2_; have GE429 := n3_; clear n0_ n1_ n2_ n3_; clear hb hbox hg) | ((with_reducible refine gate_dst (N := 3) rfl ?_); (try (refine gate_guard (by rfl) ?_; dsimp only)); refine box_event ?hg (N := 3) ?hd (cs := #[.int .i64 a1_0, .slice A1_1 l1_1.length c1_1, .slice A1_2 l1_2.length c1_2, .slice A1_3 l1_3.length c1_3]) (t := 47) ?hr ?_; (case hd => rfl); (case hg => rfl); (case hr => first | (go_simp; done) | (go_simp; rfl)); intro gb430 hg w5 hbox hb; have n0_ := Aside0.mk (blk_below (g := gb429) (o := .cells #[.int .i64 a0_0, .slice A0_1 l0_1.length c0_1, .slice A0_2 l0_2.length c0_2, .slice A0_3 l0_3.length c0_3] 47 (0, 0)) (by (with_reducible repeat (first | refine blk_drewN ?_ _ | refine blk_drew ?_ | refine blk_alloc ?_ _)); exact BK429.out) hb); have n1_ := Aside0.mk (below_step (by repeat (first | (with_reducible first | exact HB.out | apply below_alloc | apply pw_below_drewN | apply below_drew1 | refine below_set ?_ GE429.out) | exact HB.out)) hb); have n2_ := Aside0.mk (hbox); have n3_ := Aside0.mk ((by rw [hg]; exact (below_size (by repeat (first | (with_reducible first | exact HB.out | apply below_alloc | apply pw_below_drewN | apply below_drew1 | refine below_set ?_ GE429.out) | exact HB.out))) : w.heap.size ≤ gb430)); have n4_ := Aside0.mk ((by rw [hg]; exact (below_size (by repeat (first | (with_reducible first | exact HB.out | apply below_alloc | apply pw_below_drewN | apply below_drew1 | refine below_set ?_ GE429.out) | exact HB.out))) : w.heap.size ≤ gb430)); have n5_ := Aside0.mk ((by rw [hg]; exact Nat.ne_of_lt (blk_lt (g := gb429) (o := .cells #[.int .i64 a0_0, .slice A0_1 l0_1.length c0_1, .slice A0_2 l0_2.length c0_2, .slice A0_3 l0_3.length c0_3] 47 (0, 0)) (by (with_reducible repeat (first | refine blk_drewN ?_ _ | refine blk_drew ?_ | refine blk_alloc ?_ _)); exact BK429.out)) : gb429 ≠ gb430)); have n6_ := Aside0.mk ((by rw [hg]; exact Nat.ne_of_gt (blk_lt (g := gb429) (o := .cells #[.int .i64 a0_0, .slice A0_1 l0_1.length c0_1, .slice A0_2 l0_2.length c0_2, .slice A0_3 l0_3.length c0_3] 47 (0, 0)) (by (with_reducible repeat (first | refine blk_drewN ?_ _ | refine blk_drew ?_ | refine blk_alloc ?_ _)); exact BK429.out)) : gb430 ≠ gb429)); clear BK429; clear HB; have BK429 := n0_; have HB := n1_; have BK430 := n2_; have GW430 := n3_; have GE430 := n4_; have NB429_430 := n5_; have NB430_429 := n6_; clear n0_ n1_ n2_ n3_ n4_ n5_ n6_; clear hb hbox hg))
 (try simp only [Act.put, List.setIfInBounds_toArray, List.set_cons_zero, List.set_cons_succ])
 go_cut [35] (fun v35 wc => ∃ (kq : Nat) (x35_2 : Bool), v35 = .bool x35_2 ∧ Aside0 (goboref11_SamePat.j0 kq x35_2 a0_0 l0_1 l0_2 l0_3 a1_0 l1_1 l1_2 l1_3 = some r) ∧ Aside0 (kq ≤ k) ∧ Aside0 (wc.heap[gb429]? = some (.cells #[.int .i64 a0_0, (.slice A0_1 l0_1.length c0_1), (.slice A0_2 l0_2.length c0_2), (.slice A0_3 l0_3.length c0_3)] 47 (0, 0))) ∧ Aside0 (wc.heap[gb430]? = some (.cells #[.int .i64 a1_0, (.slice A1_1 l1_1.length c1_1), (.slice A1_2 l1_2.length c1_2), (.slice A1_3 l1_3.length c1_3)] 47 (0, 0))) ∧ Aside0 (Below w.heap.size w wc))
 case first =>
  have H := HC3.out
  clear HC3
  by_cases c6 : a0_0 = a1_0
  · rw [if_pos c6] at H
    have c6b0 : (a0_0 == a1_0) = true := beq_iff_eq.mpr c6
    have c6b1 : (a0_0 != a1_0) = false := bne_eq_false_iff_eq.mpr c6
    clear c6
    (first | rw [c6b0] | (simp only [i64_w, i32_w]; rw [c6b0]) | skip)
    by_cases c7 : (l0_3.length : Int) = (l1_3.length : Int)
    · rw [if_pos c7] at H
      have c7b0 : ((l0_3.length : Int) == (l1_3.length : Int)) = true := beq_iff_eq.mpr c7
      have c7b1 : ((l0_3.length : Int) != (l1_3.length : Int)) = false := bne_eq_false_iff_eq.mpr c7
      have c7b2 : (l0_3.length == l1_3.length) = true := by first | simpa using c7 | (simp at c7 ⊢; omega)
      clear c7
      replace H := Option.bind_eq_some_iff.mp H
      obtain ⟨t431, A80, H⟩ := H
      replace H : (if t431 = true then ((goboref11_texts.f k l0_2 l1_2).bind fun t432 => (goboref11_SamePat.j0 k (!t432) a0_0 l0_1 l0_2 l0_3 a1_0 l1_1 l1_2 l1_3)) else (goboref11_SamePat.j0 k true a0_0 l0_1 l0_2 l0_3 a1_0 l1_1 l1_2 l1_3)) = some r := H
      have A8 := Aside0.mk A80
      clear A80
      by_cases c9 : t431 = true
      · subst c9
        have H1 : ((goboref11_texts.f k l0_2 l1_2).bind fun t432 => (goboref11_SamePat.j0 k (!t432) a0_0 l0_1 l0_2 l0_3 a1_0 l1_1 l1_2 l1_3)) = some r := by rw [if_pos rfl] at H; exact H
        clear H
        have H := H1
        clear H1
        replace H := Option.bind_eq_some_iff.mp H
        obtain ⟨t432, A100, H⟩ := H
        replace H : (goboref11_SamePat.j0 k (!t432) a0_0 l0_1 l0_2 l0_3 a1_0 l1_1 l1_2 l1_3) = some r := H
        have A10 := Aside0.mk A100
        clear A100
        have H' := Aside0.mk H
        clear H
        have hnb11 := NB429_430.out
        have hnc11 := NB430_429.out
        have hcz12_0 : w5.cell? ⟨gb429, 0, none⟩ = some (.int .i64 a0_0) := (blk_cell BK429.out 0).trans rfl
        have hcz12_1 : w5.cell? ⟨gb429, 1, none⟩ = some (.slice A0_1 l0_1.length c0_1) := (blk_cell BK429.out 1).trans rfl
        have hcz12_2 : w5.cell? ⟨gb429, 2, none⟩ = some (.slice A0_2 l0_2.length c0_2) := (blk_cell BK429.out 2).trans rfl
        have hcz12_3 : w5.cell? ⟨gb429, 3, none⟩ = some (.slice A0_3 l0_3.length c0_3) := (blk_cell BK429.out 3).trans rfl
        have hfz12_0 := blk_frozen BK429.out 0
        have hfz12_1 := blk_frozen BK429.out 1
        have hfz12_2 := blk_frozen BK429.out 2
        have hfz12_3 := blk_frozen BK429.out 3
        have hcz13_0 : w5.cell? ⟨gb430, 0, none⟩ = some (.int .i64 a1_0) := (blk_cell BK430.out 0).trans rfl
        have hcz13_1 : w5.cell? ⟨gb430, 1, none⟩ = some (.slice A1_1 l1_1.length c1_1) := (blk_cell BK430.out 1).trans rfl
        have hcz13_2 : w5.cell? ⟨gb430, 2, none⟩ = some (.slice A1_2 l1_2.length c1_2) := (blk_cell BK430.out 2).trans rfl
        have hcz13_3 : w5.cell? ⟨gb430, 3, none⟩ = some (.slice A1_3 l1_3.length c1_3) := (blk_cell BK430.out 3).trans rfl
        have hfz13_0 := blk_frozen BK430.out 0
        have hfz13_1 := blk_frozen BK430.out 1
        have hfz13_2 := blk_frozen BK430.out 2
        have hfz13_3 := blk_frozen BK430.out 3
        go_wp2_with (first | (go_at_call 34; (with_reducible refine (goboref11_texts.calls k _ _ l0_1 _ _ l1_1 true _ ?side1 ?side2 ?side3 ?side4 A8.out).mono ?_); (case side1 => repeat (first | exact (Kd.C_below HR0_1.out HB.out) | (with_reducible refine Kd.C_alloc ?_ _) | (with_reducible refine Kd.C_drewN ?_ _) | (with_reducible refine Kd.C_drew ?_))); (case side2 => exact HC0_1.out); (case side3 => repeat (first | exact (Kd.C_below HR1_1.out HB.out) | (with_reducible refine Kd.C_alloc ?_ _) | (with_reducible refine Kd.C_drewN ?_ _) | (with_reducible refine Kd.C_drew ?_))); (case side4 => exact HC1_1.out); rintro e w' ⟨rfl, ⟨nd, rfl⟩⟩) | (go_at_call 34; (with_reducible refine (goboref11_texts.calls k _ _ l0_2 _ _ l1_2 t432 _ ?side1 ?side2 ?side3 ?side4 A10.out).mono ?_); (case side1 => repeat (first | exact (Kd.C_below HR0_2.out (by repeat (first | (with_reducible first | exact HB.out | apply below_alloc | apply pw_below_drewN | apply below_drew1 | refine below_set ?_ GE429.out | refine below_set ?_ GE430.out) | exact HB.out))) | (with_reducible refine Kd.C_alloc ?_ _) | (with_reducible refine Kd.C_drewN ?_ _) | (with_reducible refine Kd.C_drew ?_))); (case side2 => exact HC0_2.out); (case side3 => repeat (first | exact (Kd.C_below HR1_2.out (by repeat (first | (with_reducible first | exact HB.out | apply below_alloc | apply pw_below_drewN | apply below_drew1 | refine below_set ?_ GE429.out | refine below_set ?_ GE430.out) | exact HB.out))) | (with_reducible refine Kd.C_alloc ?_ _) | (with_reducible refine Kd.C_drewN ?_ _) | (with_reducible refine Kd.C_drew ?_))); (case side4 => exact HC1_2.out); rintro e w' ⟨rfl, ⟨nd, rfl⟩⟩))
        go_meet
        case rel => exact ⟨_, (!t432), (by first | rfl | (simp; done) | (simp [*]; done)), H', ⟨by first | omega | exact Nat.le_refl _⟩, ⟨by (with_reducible repeat (first | refine blk_drewN ?_ _ | refine blk_drew ?_ | refine blk_alloc ?_ _)); exact BK429.out⟩, ⟨by (with_reducible repeat (first | refine blk_drewN ?_ _ | refine blk_drew ?_ | refine blk_alloc ?_ _)); exact BK430.out⟩, ⟨by repeat (first | (with_reducible first | exact HB.out | apply below_alloc | apply pw_below_drewN | apply below_drew1 | refine below_set ?_ GE429.out | refine below_set ?_ GE430.out) | exact HB.out)⟩⟩
      · replace c9 := Bool.eq_false_iff.mpr c9
        subst c9
        have H1 : (goboref11_SamePat.j0 k true a0_0 l0_1 l0_2 l0_3 a1_0 l1_1 l1_2 l1_3) = some r := by rw [if_neg (show ¬ (false = true) by decide)] at H; exact H
        clear H
        have H := H1
        clear H1
        have H' := Aside0.mk H
        clear H
        have hnb14 := NB429_430.out
        have hnc14 := NB430_429.out
        have hcz15_0 : w5.cell? ⟨gb429, 0, none⟩ = some (.int .i64 a0_0) := (blk_cell BK429.out 0).trans rfl
        have hcz15_1 : w5.cell? ⟨gb429, 1, none⟩ = some (.slice A0_1 l0_1.length c0_1) := (blk_cell BK429.out 1).trans rfl
        have hcz15_2 : w5.cell? ⟨gb429, 2, none⟩ = some (.slice A0_2 l0_2.length c0_2) := (blk_cell BK429.out 2).trans rfl
        have hcz15_3 : w5.cell? ⟨gb429, 3, none⟩ = some (.slice A0_3 l0_3.length c0_3) := (blk_cell BK429.out 3).trans rfl
        have hfz15_0 := blk_frozen BK429.out 0
        have hfz15_1 := blk_frozen BK429.out 1
        have hfz15_2 := blk_frozen BK429.out 2
        have hfz15_3 := blk_frozen BK429.out 3
        have hcz16_0 : w5.cell? ⟨gb430, 0, none⟩ = some (.int .i64 a1_0) := (blk_cell BK430.out 0).trans rfl
        have hcz16_1 : w5.cell? ⟨gb430, 1, none⟩ = some (.slice A1_1 l1_1.length c1_1) := (blk_cell BK430.out 1).trans rfl
        have hcz16_2 : w5.cell? ⟨gb430, 2, none⟩ = some (.slice A1_2 l1_2.length c1_2) := (blk_cell BK430.out 2).trans rfl
        have hcz16_3 : w5.cell? ⟨gb430, 3, none⟩ = some (.slice A1_3 l1_3.length c1_3) := (blk_cell BK430.out 3).trans rfl
        have hfz16_0 := blk_frozen BK430.out 0
        have hfz16_1 := blk_frozen BK430.out 1
        have hfz16_2 := blk_frozen BK430.out 2
        have hfz16_3 := blk_frozen BK430.out 3
        go_wp2_with (first | (go_at_call 34; (with_reducible refine (goboref11_texts.calls k _ _ l0_1 _ _ l1_1 false _ ?side1 ?side2 ?side3 ?side4 A8.out).mono ?_); (case side1 => repeat (first | exact (Kd.C_below HR0_1.out HB.out) | (with_reducible refine Kd.C_alloc ?_ _) | (with_reducible refine Kd.C_drewN ?_ _) | (with_reducible refine Kd.C_drew ?_))); (case side2 => exact HC0_1.out); (case side3 => repeat (first | exact (Kd.C_below HR1_1.out HB.out) | (with_reducible refine Kd.C_alloc ?_ _) | (with_reducible refine Kd.C_drewN ?_ _) | (with_reducible refine Kd.C_drew ?_))); (case side4 => exact HC1_1.out); rintro e w' ⟨rfl, ⟨nd, rfl⟩⟩))
        go_meet
        case rel => exact ⟨_, (true), (by first | rfl | (simp; done) | (simp [*]; done)), H', ⟨by first | omega | exact Nat.le_refl _⟩, ⟨by (with_reducible repeat (first | refine blk_drewN ?_ _ | refine blk_drew ?_ | refine blk_alloc ?_ _)); exact BK429.out⟩, ⟨by (with_reducible repeat (first | refine blk_drewN ?_ _ | refine blk_drew ?_ | refine blk_alloc ?_ _)); exact BK430.out⟩, ⟨by repeat (first | (with_reducible first | exact HB.out | apply below_alloc | apply pw_below_drewN | apply below_drew1 | refine below_set ?_ GE429.out | refine below_set ?_ GE430.out) | exact HB.out)⟩⟩
    · rw [if_neg c7] at H
      have c7b0 : ((l0_3.length : Int) == (l1_3.length : Int)) = false := beq_eq_false_iff_ne.mpr c7
      have c7b1 : ((l0_3.length : Int) != (l1_3.length : Int)) = true := bne_iff_ne.mpr c7
      have c7b2 : (l0_3.length == l1_3.length) = false := by first | simpa using c7 | (simp at c7 ⊢; omega)
      have H' := Aside0.mk H
      clear H
      have hnb17 := NB429_430.out
      have hnc17 := NB430_429.out
      have hcz18_0 : w5.cell? ⟨gb429, 0, none⟩ = some (.int .i64 a0_0) := (blk_cell BK429.out 0).trans rfl
      have hcz18_1 : w5.cell? ⟨gb429, 1, none⟩ = some (.slice A0_1 l0_1.length c0_1) := (blk_cell BK429.out 1).trans rfl
      have hcz18_2 : w5.cell? ⟨gb429, 2, none⟩ = some (.slice A0_2 l0_2.length c0_2) := (blk_cell BK429.out 2).trans rfl
      have hcz18_3 : w5.cell? ⟨gb429, 3, none⟩ = some (.slice A0_3 l0_3.length c0_3) := (blk_cell BK429.out 3).trans rfl
      have hfz18_0 := blk_frozen BK429.out 0
      have hfz18_1 := blk_frozen BK429.out 1
      have hfz18_2 := blk_frozen BK429.out 2
      have hfz18_3 := blk_frozen BK429.out 3
      have hcz19_0 : w5.cell? ⟨gb430, 0, none⟩ = some (.int .i64 a1_0) := (blk_cell BK430.out 0).trans rfl
      have hcz19_1 : w5.cell? ⟨gb430, 1, none⟩ = some (.slice A1_1 l1_1.length c1_1) := (blk_cell BK430.out 1).trans rfl
      have hcz19_2 : w5.cell? ⟨gb430, 2, none⟩ = some (.slice A1_2 l1_2.length c1_2) := (blk_cell BK430.out 2).trans rfl
      have hcz19_3 : w5.cell? ⟨gb430, 3, none⟩ = some (.slice A1_3 l1_3.length c1_3) := (blk_cell BK430.out 3).trans rfl
      have hfz19_0 := blk_frozen BK430.out 0
      have hfz19_1 := blk_frozen BK430.out 1
      have hfz19_2 := blk_frozen BK430.out 2
      have hfz19_3 := blk_frozen BK430.out 3
      go_wp2
      go_meet
      case rel => exact ⟨_, (true), (by first | rfl | (simp; done) | (simp [*]; done)), H', ⟨by first | omega | exact Nat.le_refl _⟩, ⟨by (with_reducible repeat (first | refine blk_drewN ?_ _ | refine blk_drew ?_ | refine blk_alloc ?_ _)); exact BK429.out⟩, ⟨by (with_reducible repeat (first | refine blk_drewN ?_ _ | refine blk_drew ?_ | refine blk_alloc ?_ _)); exact BK430.out⟩, ⟨by repeat (first | (with_reducible first | exact HB.out | apply below_alloc | apply pw_below_drewN | apply below_drew1 | refine below_set ?_ GE429.out | refine below_set ?_ GE430.out) | exact HB.out)⟩⟩
  · rw [if_neg c6] at H
    have c6b0 : (a0_0 == a1_0) = false := beq_eq_false_iff_ne.mpr c6
    have c6b1 : (a0_0 != a1_0) = true := bne_iff_ne.mpr c6
    (first | rw [c6b0] | (simp only [i64_w, i32_w]; rw [c6b0]) | skip)
    have H' := Aside0.mk H
    clear H
    have hnb20 := NB429_430.out
    have hnc20 := NB430_429.out
    have hcz21_0 : w5.cell? ⟨gb429, 0, none⟩ = some (.int .i64 a0_0) := (blk_cell BK429.out 0).trans rfl
    have hcz21_1 : w5.cell? ⟨gb429, 1, none⟩ = some (.slice A0_1 l0_1.length c0_1) := (blk_cell BK429.out 1).trans rfl
    have hcz21_2 : w5.cell? ⟨gb429, 2, none⟩ = some (.slice A0_2 l0_2.length c0_2) := (blk_cell BK429.out 2).trans rfl
    have hcz21_3 : w5.cell? ⟨gb429, 3, none⟩ = some (.slice A0_3 l0_3.length c0_3) := (blk_cell BK429.out 3).trans rfl
    have hfz21_0 := blk_frozen BK429.out 0
    have hfz21_1 := blk_frozen BK429.out 1
    have hfz21_2 := blk_frozen BK429.out 2
    have hfz21_3 := blk_frozen BK429.out 3
    have hcz22_0 : w5.cell? ⟨gb430, 0, none⟩ = some (.int .i64 a1_0) := (blk_cell BK430.out 0).trans rfl
    have hcz22_1 : w5.cell? ⟨gb430, 1, none⟩ = some (.slice A1_1 l1_1.length c1_1) := (blk_cell BK430.out 1).trans rfl
    have hcz22_2 : w5.cell? ⟨gb430, 2, none⟩ = some (.slice A1_2 l1_2.length c1_2) := (blk_cell BK430.out 2).trans rfl
    have hcz22_3 : w5.cell? ⟨gb430, 3, none⟩ = some (.slice A1_3 l1_3.length c1_3) := (blk_cell BK430.out 3).trans rfl
    have hfz22_0 := blk_frozen BK430.out 0
    have hfz22_1 := blk_frozen BK430.out 1
    have hfz22_2 := blk_frozen BK430.out 2
    have hfz22_3 := blk_frozen BK430.out 3
    go_wp2
    go_meet
    case rel => exact ⟨_, (true), (by first | rfl | (simp; done) | (simp [*]; done)), H', ⟨by first | omega | exact Nat.le_refl _⟩, ⟨by (with_reducible repeat (first | refine blk_drewN ?_ _ | refine blk_drew ?_ | refine blk_alloc ?_ _)); exact BK429.out⟩, ⟨by (with_reducible repeat (first | refine blk_drewN ?_ _ | refine blk_drew ?_ | refine blk_alloc ?_ _)); exact BK430.out⟩, ⟨by repeat (first | (with_reducible first | exact HB.out | apply below_alloc | apply pw_below_drewN | apply below_drew1 | refine below_set ?_ GE429.out | refine below_set ?_ GE430.out) | exact HB.out)⟩⟩
 case rest =>
  clear HC3
  obtain ⟨kq, x35_2, rfl, HA, HJ2, BK429, BK430, HB⟩ := hcut
  cases kq with
  | zero => exact absurd HA.out (by simp [goboref11_SamePat.j0])
  | succ kj2 =>
   have H := HA.out
   clear HA
   simp only [goboref11_SamePat.j0] at H
   by_cases c23 : x35_2 = true
   · subst c23
     have H1 : (some false) = some r := by rw [if_pos rfl] at H; exact H
     clear H
     have H := H1
     clear H1
     obtain rfl := Option.some.inj H
     go_wp2
     go_ret
     exact ⟨by first | rfl | (simp [errW_none, errW_some] <;> rfl) | (simp [*, errW_none, errW_some] <;> rfl), by repeat (first | (with_reducible first | exact HB.out | apply below_alloc | apply pw_below_drewN | apply below_drew1 | refine below_set ?_ GE429.out | refine below_set ?_ GE430.out) | exact HB.out)⟩
   · replace c23 := Bool.eq_false_iff.mpr c23
     subst c23
     have H1 : (goboref11_SamePat.l0 kj2 0 a0_0 l0_1 l0_2 l0_3 a1_0 l1_1 l1_2 l1_3) = some r := by rw [if_neg (show ¬ (false = true) by decide)] at H; exact H
     clear H
     have H := H1
     clear H1
     have H' := Aside0.mk H
     clear H
     go_wp2
     go_loopg [5] kj2 (fun kq v5 w' => ∃ (x5_2 : Int), v5 = .int .i64 x5_2 ∧ Aside0 (goboref11_SamePat.l0 kq x5_2 a0_0 l0_1 l0_2 l0_3 a1_0 l1_1 l1_2 l1_3 = some r) ∧ Aside0 (kq ≤ kj2) ∧ Aside0 (w'.heap[gb429]? = some (.cells #[.int .i64 a0_0, (.slice A0_1 l0_1.length c0_1), (.slice A0_2 l0_2.length c0_2), (.slice A0_3 l0_3.length c0_3)] 47 (0, 0))) ∧ Aside0 (w'.heap[gb430]? = some (.cells #[.int .i64 a1_0, (.slice A1_1 l1_1.length c1_1), (.slice A1_2 l1_2.length c1_2), (.slice A1_3 l1_3.length c1_3)] 47 (0, 0))) ∧ Aside0 (Below w.heap.size w w'))
     case atStart => exact ⟨(0), (by first | rfl | (simp; done) | (simp [*]; done)), H', ⟨Nat.le_refl _⟩, ⟨by (with_reducible repeat (first | refine blk_drewN ?_ _ | refine blk_drew ?_ | refine blk_alloc ?_ _)); exact BK429.out⟩, ⟨by (with_reducible repeat (first | refine blk_drewN ?_ _ | refine blk_drew ?_ | refine blk_alloc ?_ _)); exact BK430.out⟩, ⟨by repeat (first | (with_reducible first | exact HB.out | apply below_alloc | apply pw_below_drewN | apply below_drew1 | refine below_set ?_ GE429.out | refine below_set ?_ GE430.out) | exact HB.out)⟩⟩
     case round =>
      clear H'
      try clear c23
      obtain ⟨x5_2, rfl, HA, HK2, BK429, BK430, HB⟩ := hrel
      cases gk with
      | zero => exact absurd HA.out (by simp [goboref11_SamePat.l0])
      | succ k2 =>
       have H := HA.out
       clear HA
       simp only [goboref11_SamePat.l0] at H
       by_cases c24 : x5_2 < (l0_3.length : Int)
       · rw [if_pos c24] at H
         have c24b0 : decide (x5_2 < (l0_3.length : Int)) = true := decide_eq_true c24
         clear c24
         by_cases c25 : 0 ≤ x5_2
         · rw [if_pos c25] at H
           have c25b0 : decide (0 ≤ x5_2) = true := decide_eq_true c25
           clear c25
           by_cases c26 : x5_2 < (l1_3.length : Int)
           · rw [if_pos c26] at H
             have c26b0 : decide (x5_2 < (l1_3.length : Int)) = true := decide_eq_true c26
             clear c26
             replace H := Option.bind_eq_some_iff.mp H
             obtain ⟨t435, A270, H⟩ := H
             replace H : (if t435 = true then (goboref11_SamePat.l0 k2 (wrap64 (x5_2 + 1)) a0_0 l0_1 l0_2 l0_3 a1_0 l1_1 l1_2 l1_3) else (some false)) = some r := H
             have A27 := Aside0.mk A270
             clear A270
             by_cases c28 : t435 = true
             · subst c28
               have H1 : (goboref11_SamePat.l0 k2 (wrap64 (x5_2 + 1)) a0_0 l0_1 l0_2 l0_3 a1_0 l1_1 l1_2 l1_3) = some r := by rw [if_pos rfl] at H; exact H
               clear H
               have H := H1
               clear H1
               have H' := Aside0.mk H
               clear H
               have hnb29 := NB429_430.out
               have hnc29 := NB430_429.out
               have hcz30_0 : wr.cell? ⟨gb429, 0, none⟩ = some (.int .i64 a0_0) := (blk_cell BK429.out 0).trans rfl
               have hcz30_1 : wr.cell? ⟨gb429, 1, none⟩ = some (.slice A0_1 l0_1.length c0_1) := (blk_cell BK429.out 1).trans rfl
               have hcz30_2 : wr.cell? ⟨gb429, 2, none⟩ = some (.slice A0_2 l0_2.length c0_2) := (blk_cell BK429.out 2).trans rfl
               have hcz30_3 : wr.cell? ⟨gb429, 3, none⟩ = some (.slice A0_3 l0_3.length c0_3) := (blk_cell BK429.out 3).trans rfl
               have hfz30_0 := blk_frozen BK429.out 0
               have hfz30_1 := blk_frozen BK429.out 1
               have hfz30_2 := blk_frozen BK429.out 2
               have hfz30_3 := blk_frozen BK429.out 3
               try go_wp2
               have n0_ := Aside0.mk (blk_drew BK429.out)
               have n1_ := Aside0.mk (blk_drew BK430.out)
               have n2_ := Aside0.mk (below_drew1 HB.out)
               clear BK429
               clear BK430
               clear HB
               have BK429 := n0_
               have BK430 := n1_
               have HB := n2_
               clear n0_ n1_ n2_
               have p433 : 0 ≤ (x5_2 : Int) := of_decide_eq_true (by first | (with_reducible assumption) | assumption)
               have q433 : x5_2 < (l0_3.length : Int) := of_decide_eq_true (by first | (with_reducible assumption) | assumption)
               obtain ⟨ad433, A433_1, c433_1, A433_2, c433_2, A433_3, c433_3, e433, hx433_0, hx433_1, hx433_2, hx433_3, hl433_1, hi433_1, hl433_2, hi433_2, hl433_3, hi433_3⟩ := at_T47 HR0_3.out x5_2 p433 q433
               have hw433_3 := hx433_3
               have hw433_2 := hx433_2
               have hw433_1 := hx433_1
               have hw433_0 := hx433_0
               cases e433
               replace hx433_0 := (HB.out.cell (World.block_lt_of_cell? w _ hx433_0)).trans hx433_0
               replace hx433_1 := (HB.out.cell (World.block_lt_of_cell? w _ hx433_1)).trans hx433_1
               replace hx433_2 := (HB.out.cell (World.block_lt_of_cell? w _ hx433_2)).trans hx433_2
               replace hx433_3 := (HB.out.cell (World.block_lt_of_cell? w _ hx433_3)).trans hx433_3
               have HR433_1 := Aside0.mk hi433_1
               have HC433_1 := Aside0.mk hl433_1
               clear hi433_1 hl433_1
               have HR433_2 := Aside0.mk hi433_2
               have HC433_2 := Aside0.mk hl433_2
               clear hi433_2 hl433_2
               have HR433_3 := Aside0.mk hi433_3
               have HC433_3 := Aside0.mk hl433_3
               clear hi433_3 hl433_3
               replace p433 := eq_true p433
               replace q433 := eq_true q433
               have p434 : 0 ≤ (x5_2 : Int) := of_decide_eq_true (by first | (with_reducible assumption) | assumption)
               have q434 : x5_2 < (l1_3.length : Int) := of_decide_eq_true (by first | (with_reducible assumption) | assumption)
               obtain ⟨ad434, A434_1, c434_1, A434_2, c434_2, A434_3, c434_3, e434, hx434_0, hx434_1, hx434_2, hx434_3, hl434_1, hi434_1, hl434_2, hi434_2, hl434_3, hi434_3⟩ := at_T47 HR1_3.out x5_2 p434 q434
               have hw434_3 := hx434_3
               have hw434_2 := hx434_2
               have hw434_1 := hx434_1
               have hw434_0 := hx434_0
               cases e434
               replace hx434_0 := (HB.out.cell (World.block_lt_of_cell? w _ hx434_0)).trans hx434_0
               replace hx434_1 := (HB.out.cell (World.block_lt_of_cell? w _ hx434_1)).trans hx434_1
               replace hx434_2 := (HB.out.cell (World.block_lt_of_cell? w _ hx434_2)).trans hx434_2
               replace hx434_3 := (HB.out.cell (World.block_lt_of_cell? w _ hx434_3)).trans hx434_3
               have HR434_1 := Aside0.mk hi434_1
               have HC434_1 := Aside0.mk hl434_1
               clear hi434_1 hl434_1
               have HR434_2 := Aside0.mk hi434_2
               have HC434_2 := Aside0.mk hl434_2
               clear hi434_2 hl434_2
               have HR434_3 := Aside0.mk hi434_3
               have HC434_3 := Aside0.mk hl434_3
               clear hi434_3 hl434_3
               replace p434 := eq_true p434
               replace q434 := eq_true q434
               refine start_ (n := 12) (S := fun w' => w'.cell? ⟨gb429, 0, none⟩ = some (.int .i64 a0_0) ∧ w'.cell? ⟨gb429, 1, none⟩ = some (.slice A0_1 l0_1.length c0_1) ∧ w'.cell? ⟨gb429, 2, none⟩ = some (.slice A0_2 l0_2.length c0_2) ∧ w'.cell? ⟨gb429, 3, none⟩ = some (.slice (some ad433) l0_3.length c0_3) ∧ w'.cell? ⟨gb430, 0, none⟩ = some (.int .i64 a1_0) ∧ w'.cell? ⟨gb430, 1, none⟩ = some (.slice A1_1 l1_1.length c1_1) ∧ w'.cell? ⟨gb430, 2, none⟩ = some (.slice A1_2 l1_2.length c1_2) ∧ w'.cell? ⟨gb430, 3, none⟩ = some (.slice (some ad434) l1_3.length c1_3) ∧ w'.cell? (ad433.add ((x5_2).toNat * 4)) = some (.int .i64 ((rd_T47 l0_3 x5_2).f0)) ∧ w'.cell? ⟨(ad433.add ((x5_2).toNat * 4)).block, (ad433.add ((x5_2).toNat * 4)).off + 1, none⟩ = some (.slice A433_1 ((rd_T47 l0_3 x5_2).f1).length c433_1) ∧ w'.cell? ⟨(ad433.add ((x5_2).toNat * 4)).block, (ad433.add ((x5_2).toNat * 4)).off + 2, none⟩ = some (.slice A433_2 ((rd_T47 l0_3 x5_2).f2).length c433_2) ∧ w'.cell? ⟨(ad433.add ((x5_2).toNat * 4)).block, (ad433.add ((x5_2).toNat * 4)).off + 3, none⟩ = some (.slice A433_3 ((rd_T47 l0_3 x5_2).f3).length c433_3) ∧ w'.cell? (ad434.add ((x5_2).toNat * 4)) = some (.int .i64 ((rd_T47 l1_3 x5_2).f0)) ∧ w'.cell? ⟨(ad434.add ((x5_2).toNat * 4)).block, (ad434.add ((x5_2).toNat * 4)).off + 1, none⟩ = some (.slice A434_1 ((rd_T47 l1_3 x5_2).f1).length c434_1) ∧ w'.cell? ⟨(ad434.add ((x5_2).toNat * 4)).block, (ad434.add ((x5_2).toNat * 4)).off + 2, none⟩ = some (.slice A434_2 ((rd_T47 l1_3 x5_2).f2).length c434_2) ∧ w'.cell? ⟨(ad434.add ((x5_2).toNat * 4)).block, (ad434.add ((x5_2).toNat * 4)).off + 3, none⟩ = some (.slice A434_3 ((rd_T47 l1_3 x5_2).f3).length c434_3)) (ds := []) #[false, false, false, false, false, false, false, false, false, false, false, false] (by kernel_rfl) rfl rfl ⟨(blk_cell BK429.out 0).trans rfl, (blk_cell BK429.out 1).trans rfl, (blk_cell BK429.out 2).trans rfl, (blk_cell BK429.out 3).trans rfl, (blk_cell BK430.out 0).trans rfl, (blk_cell BK430.out 1).trans rfl, (blk_cell BK430.out 2).trans rfl, (blk_cell BK430.out 3).trans rfl, ((HB.out.cell (World.block_lt_of_cell? w _ hw433_0)).trans hw433_0), ((HB.out.cell (World.block_lt_of_cell? w _ hw433_1)).trans hw433_1), ((HB.out.cell (World.block_lt_of_cell? w _ hw433_2)).trans hw433_2), ((HB.out.cell (World.block_lt_of_cell? w _ hw433_3)).trans hw433_3), ((HB.out.cell (World.block_lt_of_cell? w _ hw434_0)).trans hw434_0), ((HB.out.cell (World.block_lt_of_cell? w _ hw434_1)).trans hw434_1), ((HB.out.cell (World.block_lt_of_cell? w _ hw434_2)).trans hw434_2), ((HB.out.cell (World.block_lt_of_cell? w _ hw434_3)).trans hw434_3)⟩ (fun hHeld => ?_); refine with_tabW goboref11_SamePat.tab6 goboref11_SamePat.bits6 (fun HT_ HW_ => ?_)
               generalize wr.drew = w31 at BK429 BK430 HB HR433_1 HR433_2 HR433_3 HR434_1 HR434_2 HR434_3 hx433_0 hx433_1 hx433_2 hx433_3 hx434_0 hx434_1 hx434_2 hx434_3 hHeld ⊢
               refine pure_ (i := 0) (N := some 43) (v := ?_) (a' := ?_) #[true, false, false, false, false, false, false, false, false, false, false, false] rfl rfl (any_of HT_.out (by kernel_rfl)) (fun _ _ _ h => h) (Or.inl ⟨by rfl, ?_⟩) ?_ ?_
               rotate_left
               · intro w'
                 go_simp
                 with_reducible rfl
               rotate_left
               · simp only [Act.put, List.setIfInBounds_toArray, List.set_cons_zero, List.set_cons_succ, i64_w, i32_w]
                 rfl
               refine pure_ (i := 2) (N := some 45) (v := ?_) (a' := ?_) #[true, false, true, false, false, false, false, false, false, false, false, false] rfl rfl (any_of HT_.out (by kernel_rfl)) (fun _ _ _ h => h) (Or.inl ⟨by rfl, ?_⟩) ?_ ?_
               rotate_left
               · intro w'
                 go_simp
                 with_reducible rfl
               rotate_left
               · simp only [Act.put, List.setIfInBounds_toArray, List.set_cons_zero, List.set_cons_succ, i64_w, i32_w]
                 rfl
               refine pure_ (i := 5) (N := some 48) (v := ?_) (a' := ?_) #[true, false, true, false, false, true, false, false, false, false, false, false] rfl rfl (any_of HT_.out (by kernel_rfl)) (fun _ _ _ h => h) (Or.inl ⟨by rfl, ?_⟩) ?_ ?_
               rotate_left
               · intro w'
                 go_simp
                 with_reducible rfl
               rotate_left
               · simp only [Act.put, List.setIfInBounds_toArray, List.set_cons_zero, List.set_cons_succ, i64_w, i32_w]
                 rfl
               refine pure_ (i := 7) (N := some 50) (v := ?_) (a' := ?_) #[true, false, true, false, false, true, false, true, false, false, false, false] rfl rfl (any_of HT_.out (by kernel_rfl)) (fun _ _ _ h => h) (Or.inl ⟨by rfl, ?_⟩) ?_ ?_
               rotate_left
               · intro w'
                 go_simp
                 with_reducible rfl
               rotate_left
               · simp only [Act.put, List.setIfInBounds_toArray, List.set_cons_zero, List.set_cons_succ, i64_w, i32_w]
                 rfl
               refine take_ (i := 1) (N := some 44) (v := ?_) (a' := ?_) #[true, true, true, false, false, true, false, true, false, false, false, false] rfl rfl (take_ofW HT_.out HW_.out (by kernel_rfl)) (fun _ _ _ h => h) (Or.inl ⟨by rfl, ?_⟩) hHeld ?_ ?_
               rotate_left
               · rintro w' ⟨s0, s1, s2, s3, s4, s5, s6, s7, s8, s9, s10, s11, s12, s13, s14, s15⟩
                 go_simp
                 with_reducible rfl
               rotate_left
               · simp only [Act.put, List.setIfInBounds_toArray, List.set_cons_zero, List.set_cons_succ, i64_w, i32_w]
                 rfl
               refine pure_ (i := 3) (N := some 46) (v := ?_) (a' := ?_) #[true, true, true, true, false, true, false, true, false, false, false, false] rfl rfl (any_of HT_.out (by kernel_rfl)) (fun _ _ _ h => h) (Or.inl ⟨by rfl, ?_⟩) ?_ ?_
               rotate_left
               · intro w'
                 go_simp
                 with_reducible rfl
               rotate_left
               · simp only [Act.put, List.setIfInBounds_toArray, List.set_cons_zero, List.set_cons_succ, i64_w, i32_w]
                 rfl
               refine take_ (i := 4) (N := some 47) (v := ?_) (a' := ?_) #[true, true, true, true, true, true, false, true, false, false, false, false] rfl rfl (take_ofW HT_.out HW_.out (by kernel_rfl)) (fun _ _ _ h => h) (Or.inl ⟨by rfl, ?_⟩) hHeld ?_ ?_
               rotate_left
               · rintro w' ⟨s0, s1, s2, s3, s4, s5, s6, s7, s8, s9, s10, s11, s12, s13, s14, s15⟩
                 go_simp
                 with_reducible rfl
               rotate_left
               · simp only [Act.put, List.setIfInBounds_toArray, List.set_cons_zero, List.set_cons_succ, i64_w, i32_w]
                 rfl
               refine take_ (i := 6) (N := some 49) (v := ?_) (a' := ?_) #[true, true, true, true, true, true, true, true, false, false, false, false] rfl rfl (take_ofW HT_.out HW_.out (by kernel_rfl)) (fun _ _ _ h => h) (Or.inl ⟨by rfl, ?_⟩) hHeld ?_ ?_
               rotate_left
               · rintro w' ⟨s0, s1, s2, s3, s4, s5, s6, s7, s8, s9, s10, s11, s12, s13, s14, s15⟩
                 go_simp
                 with_reducible rfl
               rotate_left
               · simp only [Act.put, List.setIfInBounds_toArray, List.set_cons_zero, List.set_cons_succ, i64_w, i32_w]
                 rfl
               refine pure_ (i := 8) (N := some 51) (v := ?_) (a' := ?_) #[true, true, true, true, true, true, true, true, true, false, false, false] rfl rfl (any_of HT_.out (by kernel_rfl)) (fun _ _ _ h => h) (Or.inl ⟨by rfl, ?_⟩) ?_ ?_
               rotate_left
               · intro w'
                 go_simp
                 with_reducible rfl
               rotate_left
               · simp only [Act.put, List.setIfInBounds_toArray, List.set_cons_zero, List.set_cons_succ, i64_w, i32_w]
                 rfl
               refine take_ (i := 9) (N := some 52) (v := ?_) (a' := ?_) #[true, true, true, true, true, true, true, true, true, true, false, false] rfl rfl (take_ofW HT_.out HW_.out (by kernel_rfl)) (fun _ _ _ h => h) (Or.inl ⟨by rfl, ?_⟩) hHeld ?_ ?_
               rotate_left
               · rintro w' ⟨s0, s1, s2, s3, s4, s5, s6, s7, s8, s9, s10, s11, s12, s13, s14, s15⟩
                 go_simp
                 with_reducible rfl
               rotate_left
               · simp only [Act.put, List.setIfInBounds_toArray, List.set_cons_zero, List.set_cons_succ, i64_w, i32_w]
                 rfl
               refine one_ (i := 10) (N := some 53) #[true, true, true, true, true, true, true, true, true, true, true, false] rfl rfl (one_of HT_.out (by kernel_rfl)) (by decide) (fun K hK => ?_)
               refine goes_ Tryz.func35 (by kernel_rfl) rfl #[.agg #[.int .i64 ((rd_T47 l0_3 x5_2).f0), .slice A433_1 ((rd_T47 l0_3 x5_2).f1).length c433_1, .slice A433_2 ((rd_T47 l0_3 x5_2).f2).length c433_2, .slice A433_3 ((rd_T47 l0_3 x5_2).f3).length c433_3], .agg #[.int .i64 ((rd_T47 l1_3 x5_2).f0), .slice A434_1 ((rd_T47 l1_3 x5_2).f1).length c434_1, .slice A434_2 ((rd_T47 l1_3 x5_2).f2).length c434_2, .slice A434_3 ((rd_T47 l1_3 x5_2).f3).length c434_3]] (by rfl) rfl rfl (by (try simp only [List.map_toArray, List.map_cons, List.map_nil]); first | done | rfl | (simp only [List.length_drop, List.length_take]; rfl)) ?_
               with_reducible refine (ih k2 (by have := HJ2.out; have := HK2.out; omega) ((rd_T47 l0_3 x5_2).f0) _ _ ((rd_T47 l0_3 x5_2).f1) _ _ ((rd_T47 l0_3 x5_2).f2) _ _ ((rd_T47 l0_3 x5_2).f3) ((rd_T47 l1_3 x5_2).f0) _ _ ((rd_T47 l1_3 x5_2).f1) _ _ ((rd_T47 l1_3 x5_2).f2) _ _ ((rd_T47 l1_3 x5_2).f3) true _ ?side1 ?side2 ?side3 ?side4 ?side5 ?side6 ?side7 ?side8 ?side9 ?side10 ?side11 ?side12 A27.out).mono ?_
               (case side1 => repeat (first | exact (Kd.C_below HR433_1.out HB.out) | (with_reducible refine Kd.C_alloc ?_ _) | (with_reducible refine Kd.C_drewN ?_ _) | (with_reducible refine Kd.C_drew ?_)))
               (case side2 => exact HC433_1.out)
               (case side3 => repeat (first | exact (Kd.C_below HR433_2.out HB.out) | (with_reducible refine Kd.C_alloc ?_ _) | (with_reducible refine Kd.C_drewN ?_ _) | (with_reducible refine Kd.C_drew ?_)))
               (case side4 => exact HC433_2.out)
               (case side5 => repeat (first | exact (Kd.C_below HR433_3.out HB.out) | (with_reducible refine Kd.C_alloc ?_ _) | (with_reducible refine Kd.C_drewN ?_ _) | (with_reducible refine Kd.C_drew ?_)))
               (case side6 => exact HC433_3.out)
               (case side7 => repeat (first | exact (Kd.C_below HR434_1.out HB.out) | (with_reducible refine Kd.C_alloc ?_ _) | (with_reducible refine Kd.C_drewN ?_ _) | (with_reducible refine Kd.C_drew ?_)))
               (case side8 => exact HC434_1.out)
               (case side9 => repeat (first | exact (Kd.C_below HR434_2.out HB.out) | (with_reducible refine Kd.C_alloc ?_ _) | (with_reducible refine Kd.C_drewN ?_ _) | (with_reducible refine Kd.C_drew ?_)))
               (case side10 => exact HC434_2.out)
               (case side11 => repeat (first | exact (Kd.C_below HR434_3.out HB.out) | (with_reducible refine Kd.C_alloc ?_ _) | (with_reducible refine Kd.C_drewN ?_ _) | (with_reducible refine Kd.C_drew ?_)))
               (case side12 => exact HC434_3.out)
               rintro e w32 ⟨rfl, hb⟩
               refine ⟨_, rfl, ?_⟩
               have n0_ := Aside0.mk (blk_below (g := gb429) (o := .cells #[.int .i64 a0_0, .slice A0_1 l0_1.length c0_1, .slice A0_2 l0_2.length c0_2, .slice (some ad433) l0_3.length c0_3] 47 (0, 0)) (by (with_reducible repeat (first | refine blk_drewN ?_ _ | refine blk_drew ?_ | refine blk_alloc ?_ _)); exact BK429.out) hb)
               have n1_ := Aside0.mk (blk_below (g := gb430) (o := .cells #[.int .i64 a1_0, .slice A1_1 l1_1.length c1_1, .slice A1_2 l1_2.length c1_2, .slice (some ad434) l1_3.length c1_3] 47 (0, 0)) (by (with_reducible repeat (first | refine blk_drewN ?_ _ | refine blk_drew ?_ | refine blk_alloc ?_ _)); exact BK430.out) hb)
               have n2_ := Aside0.mk (below_step (by repeat (first | (with_reducible first | exact HB.out | apply below_alloc | apply pw_below_drewN | apply below_drew1 | refine below_set ?_ GE429.out | refine below_set ?_ GE430.out) | exact HB.out)) hb)
               clear BK429
               clear BK430
               clear HB
               have BK429 := n0_
               have BK430 := n1_
               have HB := n2_
               clear n0_ n1_ n2_
               (try clear hb)
               (try clear hb2)
               (try clear hk)
               (try clear hi)
               refine hK.out _ _ ⟨(blk_cell BK429.out 0).trans rfl, (blk_cell BK429.out 1).trans rfl, (blk_cell BK429.out 2).trans rfl, (blk_cell BK429.out 3).trans rfl, (blk_cell BK430.out 0).trans rfl, (blk_cell BK430.out 1).trans rfl, (blk_cell BK430.out 2).trans rfl, (blk_cell BK430.out 3).trans rfl, ((HB.out.cell (World.block_lt_of_cell? w _ hw433_0)).trans hw433_0), ((HB.out.cell (World.block_lt_of_cell? w _ hw433_1)).trans hw433_1), ((HB.out.cell (World.block_lt_of_cell? w _ hw433_2)).trans hw433_2), ((HB.out.cell (World.block_lt_of_cell? w _ hw433_3)).trans hw433_3), ((HB.out.cell (World.block_lt_of_cell? w _ hw434_0)).trans hw434_0), ((HB.out.cell (World.block_lt_of_cell? w _ hw434_1)).trans hw434_1), ((HB.out.cell (World.block_lt_of_cell? w _ hw434_2)).trans hw434_2), ((HB.out.cell (World.block_lt_of_cell? w _ hw434_3)).trans hw434_3)⟩ (fun hHeld => ?_)
               clear hK K
               refine norm_ (a' := ?_) ?_ ?_
               rotate_left
               · show Act.put _ (some 53) _ = _
                 simp only [Act.put, List.setIfInBounds_toArray, List.set_cons_zero, List.set_cons_succ, i64_w, i32_w]
                 rfl
               refine pure_ (i := 11) (N := some 54) (v := ?_) (a' := ?_) #[true, true, true, true, true, true, true, true, true, true, true, true] rfl rfl (any_of HT_.out (by kernel_rfl)) (fun _ _ _ h => h) (Or.inl ⟨by rfl, ?_⟩) ?_ ?_
               rotate_left
               · intro w'
                 go_simp
                 with_reducible rfl
               rotate_left
               · simp only [Act.put, List.setIfInBounds_toArray, List.set_cons_zero, List.set_cons_succ, i64_w, i32_w]
                 rfl
               refine done_ (done_of HT_.out (by kernel_rfl)) ?_
               try go_wp2
               go_roundg k2
               case measure => have := HJ2.out; have := HK2.out; omega
               case rel => exact ⟨(wrap64 (x5_2 + 1)), (by first | rfl | (simp; done) | (simp [*]; done)), H', ⟨by have := HJ2.out; have := HK2.out; omega⟩, ⟨by (with_reducible repeat (first | refine blk_drewN ?_ _ | refine blk_drew ?_ | refine blk_alloc ?_ _)); exact BK429.out⟩, ⟨by (with_reducible repeat (first | refine blk_drewN ?_ _ | refine blk_drew ?_ | refine blk_alloc ?_ _)); exact BK430.out⟩, ⟨by repeat (first | (with_reducible first | exact HB.out | apply below_alloc | apply pw_below_drewN | apply below_drew1 | refine below_set ?_ GE429.out | refine below_set ?_ GE430.out) | exact HB.out)⟩⟩
             · replace c28 := Bool.eq_false_iff.mpr c28
               subst c28
               have H1 : (some false) = some r := by rw [if_neg (show ¬ (false = true) by decide)] at H; exact H
               clear H
               have H := H1
               clear H1
               obtain rfl := Option.some.inj H
               have hnb33 := NB429_430.out
               have hnc33 := NB430_429.out
               have hcz34_0 : wr.cell? ⟨gb429, 0, none⟩ = some (.int .i64 a0_0) := (blk_cell BK429.out 0).trans rfl
               have hcz34_1 : wr.cell? ⟨gb429, 1, none⟩ = some (.slice A0_1 l0_1.length c0_1) := (blk_cell BK429.out 1).trans rfl
               have hcz34_2 : wr.cell? ⟨gb429, 2, none⟩ = some (.slice A0_2 l0_2.length c0_2) := (blk_cell BK429.out 2).trans rfl
               have hcz34_3 : wr.cell? ⟨gb429, 3, none⟩ = some (.slice A0_3 l0_3.length c0_3) := (blk_cell BK429.out 3).trans rfl
               have hfz34_0 := blk_frozen BK429.out 0
               have hfz34_1 := blk_frozen BK429.out 1
               have hfz34_2 := blk_frozen BK429.out 2
               have hfz34_3 := blk_frozen BK429.out 3
               try go_wp2
               have n0_ := Aside0.mk (blk_drew BK429.out)
               have n1_ := Aside0.mk (blk_drew BK430.out)
               have n2_ := Aside0.mk (below_drew1 HB.out)
               clear BK429
               clear BK430
               clear HB
               have BK429 := n0_
               have BK430 := n1_
               have HB := n2_
               clear n0_ n1_ n2_
               have p433 : 0 ≤ (x5_2 : Int) := of_decide_eq_true (by first | (with_reducible assumption) | assumption)
               have q433 : x5_2 < (l0_3.length : Int) := of_decide_eq_true (by first | (with_reducible assumption) | assumption)
               obtain ⟨ad433, A433_1, c433_1, A433_2, c433_2, A433_3, c433_3, e433, hx433_0, hx433_1, hx433_2, hx433_3, hl433_1, hi433_1, hl433_2, hi433_2, hl433_3, hi433_3⟩ := at_T47 HR0_3.out x5_2 p433 q433
               have hw433_3 := hx433_3
               have hw433_2 := hx433_2
               have hw433_1 := hx433_1
               have hw433_0 := hx433_0
               cases e433
               replace hx433_0 := (HB.out.cell (World.block_lt_of_cell? w _ hx433_0)).trans hx433_0
               replace hx433_1 := (HB.out.cell (World.block_lt_of_cell? w _ hx433_1)).trans hx433_1
               replace hx433_2 := (HB.out.cell (World.block_lt_of_cell? w _ hx433_2)).trans hx433_2
               replace hx433_3 := (HB.out.cell (World.block_lt_of_cell? w _ hx433_3)).trans hx433_3
               have HR433_1 := Aside0.mk hi433_1
               have HC433_1 := Aside0.mk hl433_1
               clear hi433_1 hl433_1
               have HR433_2 := Aside0.mk hi433_2
               have HC433_2 := Aside0.mk hl433_2
               clear hi433_2 hl433_2
               have HR433_3 := Aside0.mk hi433_3
               have HC433_3 := Aside0.mk hl433_3
               clear hi433_3 hl433_3
               replace p433 := eq_true p433
               replace q433 := eq_true q433
               have p434 : 0 ≤ (x5_2 : Int) := of_decide_eq_true (by first | (with_reducible assumption) | assumption)
               have q434 : x5_2 < (l1_3.length : Int) := of_decide_eq_true (by first | (with_reducible assumption) | assumption)
               obtain ⟨ad434, A434_1, c434_1, A434_2, c434_2, A434_3, c434_3, e434, hx434_0, hx434_1, hx434_2, hx434_3, hl434_1, hi434_1, hl434_2, hi434_2, hl434_3, hi434_3⟩ := at_T47 HR1_3.out x5_2 p434 q434
               have hw434_3 := hx434_3
               have hw434_2 := hx434_2
               have hw434_1 := hx434_1
               have hw434_0 := hx434_0
               cases e434
               replace hx434_0 := (HB.out.cell (World.block_lt_of_cell? w _ hx434_0)).trans hx434_0
               replace hx434_1 := (HB.out.cell (World.block_lt_of_cell? w _ hx434_1)).trans hx434_1
               replace hx434_2 := (HB.out.cell (World.block_lt_of_cell? w _ hx434_2)).trans hx434_2
               replace hx434_3 := (HB.out.cell (World.block_lt_of_cell? w _ hx434_3)).trans hx434_3
               have HR434_1 := Aside0.mk hi434_1
               have HC434_1 := Aside0.mk hl434_1
               clear hi434_1 hl434_1
               have HR434_2 := Aside0.mk hi434_2
               have HC434_2 := Aside0.mk hl434_2
               clear hi434_2 hl434_2
               have HR434_3 := Aside0.mk hi434_3
               have HC434_3 := Aside0.mk hl434_3
               clear hi434_3 hl434_3
               replace p434 := eq_true p434
               replace q434 := eq_true q434
               refine start_ (n := 12) (S := fun w' => w'.cell? ⟨gb429, 0, none⟩ = some (.int .i64 a0_0) ∧ w'.cell? ⟨gb429, 1, none⟩ = some (.slice A0_1 l0_1.length c0_1) ∧ w'.cell? ⟨gb429, 2, none⟩ = some (.slice A0_2 l0_2.length c0_2) ∧ w'.cell? ⟨gb429, 3, none⟩ = some (.slice (some ad433) l0_3.length c0_3) ∧ w'.cell? ⟨gb430, 0, none⟩ = some (.int .i64 a1_0) ∧ w'.cell? ⟨gb430, 1, none⟩ = some (.slice A1_1 l1_1.length c1_1) ∧ w'.cell? ⟨gb430, 2, none⟩ = some (.slice A1_2 l1_2.length c1_2) ∧ w'.cell? ⟨gb430, 3, none⟩ = some (.slice (some ad434) l1_3.length c1_3) ∧ w'.cell? (ad433.add ((x5_2).toNat * 4)) = some (.int .i64 ((rd_T47 l0_3 x5_2).f0)) ∧ w'.cell? ⟨(ad433.add ((x5_2).toNat * 4)).block, (ad433.add ((x5_2).toNat * 4)).off + 1, none⟩ = some (.slice A433_1 ((rd_T47 l0_3 x5_2).f1).length c433_1) ∧ w'.cell? ⟨(ad433.add ((x5_2).toNat * 4)).block, (ad433.add ((x5_2).toNat * 4)).off + 2, none⟩ = some (.slice A433_2 ((rd_T47 l0_3 x5_2).f2).length c433_2) ∧ w'.cell? ⟨(ad433.add ((x5_2).toNat * 4)).block, (ad433.add ((x5_2).toNat * 4)).off + 3, none⟩ = some (.slice A433_3 ((rd_T47 l0_3 x5_2).f3).length c433_3) ∧ w'.cell? (ad434.add ((x5_2).toNat * 4)) = some (.int .i64 ((rd_T47 l1_3 x5_2).f0)) ∧ w'.cell? ⟨(ad434.add ((x5_2).toNat * 4)).block, (ad434.add ((x5_2).toNat * 4)).off + 1, none⟩ = some (.slice A434_1 ((rd_T47 l1_3 x5_2).f1).length c434_1) ∧ w'.cell? ⟨(ad434.add ((x5_2).toNat * 4)).block, (ad434.add ((x5_2).toNat * 4)).off + 2, none⟩ = some (.slice A434_2 ((rd_T47 l1_3 x5_2).f2).length c434_2) ∧ w'.cell? ⟨(ad434.add ((x5_2).toNat * 4)).block, (ad434.add ((x5_2).toNat * 4)).off + 3, none⟩ = some (.slice A434_3 ((rd_T47 l1_3 x5_2).f3).length c434_3)) (ds := []) #[false, false, false, false, false, false, false, false, false, false, false, false] (by kernel_rfl) rfl rfl ⟨(blk_cell BK429.out 0).trans rfl, (blk_cell BK429.out 1).trans rfl, (blk_cell BK429.out 2).trans rfl, (blk_cell BK429.out 3).trans rfl, (blk_cell BK430.out 0).trans rfl, (blk_cell BK430.out 1).trans rfl, (blk_cell BK430.out 2).trans rfl, (blk_cell BK430.out 3).trans rfl, ((HB.out.cell (World.block_lt_of_cell? w _ hw433_0)).trans hw433_0), ((HB.out.cell (World.block_lt_of_cell? w _ hw433_1)).trans hw433_1), ((HB.out.cell (World.block_lt_of_cell? w _ hw433_2)).trans hw433_2), ((HB.out.cell (World.block_lt_of_cell? w _ hw433_3)).trans hw433_3), ((HB.out.cell (World.block_lt_of_cell? w _ hw434_0)).trans hw434_0), ((HB.out.cell (World.block_lt_of_cell? w _ hw434_1)).trans hw434_1), ((HB.out.cell (World.block_lt_of_cell? w _ hw434_2)).trans hw434_2), ((HB.out.cell (World.block_lt_of_cell? w _ hw434_3)).trans hw434_3)⟩ (fun hHeld => ?_); refine with_tabW goboref11_SamePat.tab6 goboref11_SamePat.bits6 (fun HT_ HW_ => ?_)
               generalize wr.drew = w35 at BK429 BK430 HB HR433_1 HR433_2 HR433_3 HR434_1 HR434_2 HR434_3 hx433_0 hx433_1 hx433_2 hx433_3 hx434_0 hx434_1 hx434_2 hx434_3 hHeld ⊢
               refine pure_ (i := 0) (N := some 43) (v := ?_) (a' := ?_) #[true, false, false, false, false, false, false, false, false, false, false, false] rfl rfl (any_of HT_.out (by kernel_rfl)) (fun _ _ _ h => h) (Or.inl ⟨by rfl, ?_⟩) ?_ ?_
               rotate_left
               · intro w'
                 go_simp
                 with_reducible rfl
               rotate_left
               · simp only [Act.put, List.setIfInBounds_toArray, List.set_cons_zero, List.set_cons_succ, i64_w, i32_w]
                 rfl
               refine pure_ (i := 2) (N := some 45) (v := ?_) (a' := ?_) #[true, false, true, false, false, false, false, false, false, false, false, false] rfl rfl (any_of HT_.out (by kernel_rfl)) (fun _ _ _ h => h) (Or.inl ⟨by rfl, ?_⟩) ?_ ?_
               rotate_left
               · intro w'
                 go_simp
                 with_reducible rfl
               rotate_left
               · simp only [Act.put, List.setIfInBounds_toArray, List.set_cons_zero, List.set_cons_succ, i64_w, i32_w]
                 rfl
               refine pure_ (i := 5) (N := some 48) (v := ?_) (a' := ?_) #[true, false, true, false, false, true, false, false, false, false, false, false] rfl rfl (any_of HT_.out (by kernel_rfl)) (fun _ _ _ h => h) (Or.inl ⟨by rfl, ?_⟩) ?_ ?_
               rotate_left
               · intro w'
                 go_simp
                 with_reducible rfl
               rotate_left
               · simp only [Act.put, List.setIfInBounds_toArray, List.set_cons_zero, List.set_cons_succ, i64_w, i32_w]
                 rfl
               refine pure_ (i := 7) (N := some 50) (v := ?_) (a' := ?_) #[true, false, true, false, false, true, false, true, false, false, false, false] rfl rfl (any_of HT_.out (by kernel_rfl)) (fun _ _ _ h => h) (Or.inl ⟨by rfl, ?_⟩) ?_ ?_
               rotate_left
               · intro w'
                 go_simp
                 with_reducible rfl
               rotate_left
               · simp only [Act.put, List.setIfInBounds_toArray, List.set_cons_zero, List.set_cons_succ, i64_w, i32_w]
                 rfl
               refine take_ (i := 1) (N := some 44) (v := ?_) (a' := ?_) #[true, true, true, false, false, true, false, true, false, false, false, false] rfl rfl (take_ofW HT_.out HW_.out (by kernel_rfl)) (fun _ _ _ h => h) (Or.inl ⟨by rfl, ?_⟩) hHeld ?_ ?_
               rotate_left
               · rintro w' ⟨s0, s1, s2, s3, s4, s5, s6, s7, s8, s9, s10, s11, s12, s13, s14, s15⟩
                 go_simp
                 with_reducible rfl
               rotate_left
               · simp only [Act.put, List.setIfInBounds_toArray, List.set_cons_zero, List.set_cons_succ, i64_w, i32_w]
                 rfl
               refine pure_ (i := 3) (N := some 46) (v := ?_) (a' := ?_) #[true, true, true, true, false, true, false, true, false, false, false, false] rfl rfl (any_of HT_.out (by kernel_rfl)) (fun _ _ _ h => h) (Or.inl ⟨by rfl, ?_⟩) ?_ ?_
               rotate_left
               · intro w'
                 go_simp
                 with_reducible rfl
               rotate_left
               · simp only [Act.put, List.setIfInBounds_toArray, List.set_cons_zero, List.set_cons_succ, i64_w, i32_w]
                 rfl
               refine take_ (i := 4) (N := some 47) (v := ?_) (a' := ?_) #[true, true, true, true, true, true, false, true, false, false, false, false] rfl rfl (take_ofW HT_.out HW_.out (by kernel_rfl)) (fun _ _ _ h => h) (Or.inl ⟨by rfl, ?_⟩) hHeld ?_ ?_
               rotate_left
               · rintro w' ⟨s0, s1, s2, s3, s4, s5, s6, s7, s8, s9, s10, s11, s12, s13, s14, s15⟩
                 go_simp
                 with_reducible rfl
               rotate_left
               · simp only [Act.put, List.setIfInBounds_toArray, List.set_cons_zero, List.set_cons_succ, i64_w, i32_w]
                 rfl
               refine take_ (i := 6) (N := some 49) (v := ?_) (a' := ?_) #[true, true, true, true, true, true, true, true, false, false, false, false] rfl rfl (take_ofW HT_.out HW_.out (by kernel_rfl)) (fun _ _ _ h => h) (Or.inl ⟨by rfl, ?_⟩) hHeld ?_ ?_
               rotate_left
               · rintro w' ⟨s0, s1, s2, s3, s4, s5, s6, s7, s8, s9, s10, s11, s12, s13, s14, s15⟩
                 go_simp
                 with_reducible rfl
               rotate_left
               · simp only [Act.put, List.setIfInBounds_toArray, List.set_cons_zero, List.set_cons_succ, i64_w, i32_w]
                 rfl
               refine pure_ (i := 8) (N := some 51) (v := ?_) (a' := ?_) #[true, true, true, true, true, true, true, true, true, false, false, false] rfl rfl (any_of HT_.out (by kernel_rfl)) (fun _ _ _ h => h) (Or.inl ⟨by rfl, ?_⟩) ?_ ?_
               rotate_left
               · intro w'
                 go_simp
                 with_reducible rfl
               rotate_left
               · simp only [Act.put, List.setIfInBounds_toArray, List.set_cons_zero, List.set_cons_succ, i64_w, i32_w]
                 rfl
               refine take_ (i := 9) (N := some 52) (v := ?_) (a' := ?_) #[true, true, true, true, true, true, true, true, true, true, false, false] rfl rfl (take_ofW HT_.out HW_.out (by kernel_rfl)) (fun _ _ _ h => h) (Or.inl ⟨by rfl, ?_⟩) hHeld ?_ ?_
               rotate_left
               · rintro w' ⟨s0, s1, s2, s3, s4, s5, s6, s7, s8, s9, s10, s11, s12, s13, s14, s15⟩
                 go_simp
                 with_reducible rfl
               rotate_left
               · simp only [Act.put, List.setIfInBounds_toArray, List.set_cons_zero, List.set_cons_succ, i64_w, i32_w]
                 rfl
               refine one_ (i := 10) (N := some 53) #[true, true, true, true, true, true, true, true, true, true, true, false] rfl rfl (one_of HT_.out (by kernel_rfl)) (by decide) (fun K hK => ?_)
               refine goes_ Tryz.func35 (by kernel_rfl) rfl #[.agg #[.int .i64 ((rd_T47 l0_3 x5_2).f0), .slice A433_1 ((rd_T47 l0_3 x5_2).f1).length c433_1, .slice A433_2 ((rd_T47 l0_3 x5_2).f2).length c433_2, .slice A433_3 ((rd_T47 l0_3 x5_2).f3).length c433_3], .agg #[.int .i64 ((rd_T47 l1_3 x5_2).f0), .slice A434_1 ((rd_T47 l1_3 x5_2).f1).length c434_1, .slice A434_2 ((rd_T47 l1_3 x5_2).f2).length c434_2, .slice A434_3 ((rd_T47 l1_3 x5_2).f3).length c434_3]] (by rfl) rfl rfl (by (try simp only [List.map_toArray, List.map_cons, List.map_nil]); first | done | rfl | (simp only [List.length_drop, List.length_take]; rfl)) ?_
               with_reducible refine (ih k2 (by have := HJ2.out; have := HK2.out; omega) ((rd_T47 l0_3 x5_2).f0) _ _ ((rd_T47 l0_3 x5_2).f1) _ _ ((rd_T47 l0_3 x5_2).f2) _ _ ((rd_T47 l0_3 x5_2).f3) ((rd_T47 l1_3 x5_2).f0) _ _ ((rd_T47 l1_3 x5_2).f1) _ _ ((rd_T47 l1_3 x5_2).f2) _ _ ((rd_T47 l1_3 x5_2).f3) false _ ?side1 ?side2 ?side3 ?side4 ?side5 ?side6 ?side7 ?side8 ?side9 ?side10 ?side11 ?side12 A27.out).mono ?_
               (case side1 => repeat (first | exact (Kd.C_below HR433_1.out HB.out) | (with_reducible refine Kd.C_alloc ?_ _) | (with_reducible refine Kd.C_drewN ?_ _) | (with_reducible refine Kd.C_drew ?_)))
               (case side2 => exact HC433_1.out)
               (case side3 => repeat (first | exact (Kd.C_below HR433_2.out HB.out) | (with_reducible refine Kd.C_alloc ?_ _) | (with_reducible refine Kd.C_drewN ?_ _) | (with_reducible refine Kd.C_drew ?_)))
               (case side4 => exact HC433_2.out)
               (case side5 => repeat (first | exact (Kd.C_below HR433_3.out HB.out) | (with_reducible refine Kd.C_alloc ?_ _) | (with_reducible refine Kd.C_drewN ?_ _) | (with_reducible refine Kd.C_drew ?_)))
               (case side6 => exact HC433_3.out)
               (case side7 => repeat (first | exact (Kd.C_below HR434_1.out HB.out) | (with_reducible refine Kd.C_alloc ?_ _) | (with_reducible refine Kd.C_drewN ?_ _) | (with_reducible refine Kd.C_drew ?_)))
               (case side8 => exact HC434_1.out)
               (case side9 => repeat (first | exact (Kd.C_below HR434_2.out HB.out) | (with_reducible refine Kd.C_alloc ?_ _) | (with_reducible refine Kd.C_drewN ?_ _) | (with_reducible refine Kd.C_drew ?_)))
               (case side10 => exact HC434_2.out)
               (case side11 => repeat (first | exact (Kd.C_below HR434_3.out HB.out) | (with_reducible refine Kd.C_alloc ?_ _) | (with_reducible refine Kd.C_drewN ?_ _) | (with_reducible refine Kd.C_drew ?_)))
               (case side12 => exact HC434_3.out)
               rintro e w36 ⟨rfl, hb⟩
               refine ⟨_, rfl, ?_⟩
               have n0_ := Aside0.mk (blk_below (g := gb429) (o := .cells #[.int .i64 a0_0, .slice A0_1 l0_1.length c0_1, .slice A0_2 l0_2.length c0_2, .slice (some ad433) l0_3.length c0_3] 47 (0, 0)) (by (with_reducible repeat (first | refine blk_drewN ?_ _ | refine blk_drew ?_ | refine blk_alloc ?_ _)); exact BK429.out) hb)
               have n1_ := Aside0.mk (blk_below (g := gb430) (o := .cells #[.int .i64 a1_0, .slice A1_1 l1_1.length c1_1, .slice A1_2 l1_2.length c1_2, .slice (some ad434) l1_3.length c1_3] 47 (0, 0)) (by (with_reducible repeat (first | refine blk_drewN ?_ _ | refine blk_drew ?_ | refine blk_alloc ?_ _)); exact BK430.out) hb)
               have n2_ := Aside0.mk (below_step (by repeat (first | (with_reducible first | exact HB.out | apply below_alloc | apply pw_below_drewN | apply below_drew1 | refine below_set ?_ GE429.out | refine below_set ?_ GE430.out) | exact HB.out)) hb)
               clear BK429
               clear BK430
               clear HB
               have BK429 := n0_
               have BK430 := n1_
               have HB := n2_
               clear n0_ n1_ n2_
               (try clear hb)
               (try clear hb2)
               (try clear hk)
               (try clear hi)
               refine hK.out _ _ ⟨(blk_cell BK429.out 0).trans rfl, (blk_cell BK429.out 1).trans rfl, (blk_cell BK429.out 2).trans rfl, (blk_cell BK429.out 3).trans rfl, (blk_cell BK430.out 0).trans rfl, (blk_cell BK430.out 1).trans rfl, (blk_cell BK430.out 2).trans rfl, (blk_cell BK430.out 3).trans rfl, ((HB.out.cell (World.block_lt_of_cell? w _ hw433_0)).trans hw433_0), ((HB.out.cell (World.block_lt_of_cell? w _ hw433_1)).trans hw433_1), ((HB.out.cell (World.block_lt_of_cell? w _ hw433_2)).trans hw433_2), ((HB.out.cell (World.block_lt_of_cell? w _ hw433_3)).trans hw433_3), ((HB.out.cell (World.block_lt_of_cell? w _ hw434_0)).trans hw434_0), ((HB.out.cell (World.block_lt_of_cell? w _ hw434_1)).trans hw434_1), ((HB.out.cell (World.block_lt_of_cell? w _ hw434_2)).trans hw434_2), ((HB.out.cell (World.block_lt_of_cell? w _ hw434_3)).trans hw434_3)⟩ (fun hHeld => ?_)
               clear hK K
               refine norm_ (a' := ?_) ?_ ?_
               rotate_left
               · show Act.put _ (some 53) _ = _
                 simp only [Act.put, List.setIfInBounds_toArray, List.set_cons_zero, List.set_cons_succ, i64_w, i32_w]
                 rfl
               refine pure_ (i := 11) (N := some 54) (v := ?_) (a' := ?_) #[true, true, true, true, true, true, true, true, true, true, true, true] rfl rfl (any_of HT_.out (by kernel_rfl)) (fun _ _ _ h => h) (Or.inl ⟨by rfl, ?_⟩) ?_ ?_
               rotate_left
               · intro w'
                 go_simp
                 with_reducible rfl
               rotate_left
               · simp only [Act.put, List.setIfInBounds_toArray, List.set_cons_zero, List.set_cons_succ, i64_w, i32_w]
                 rfl
               refine done_ (done_of HT_.out (by kernel_rfl)) ?_
               try go_wp2
               go_ret
               exact ⟨by first | rfl | (simp [errW_none, errW_some] <;> rfl) | (simp [*, errW_none, errW_some] <;> rfl), by repeat (first | (with_reducible first | exact HB.out | apply below_alloc | apply pw_below_drewN | apply below_drew1 | refine below_set ?_ GE429.out | refine below_set ?_ GE430.out) | exact HB.out)⟩
           · rw [if_neg c26] at H
             exact absurd H (by simp)
         · rw [if_neg c25] at H
           exact absurd H (by simp)
       · rw [if_neg c24] at H
         have c24b0 : decide (x5_2 < (l0_3.length : Int)) = false := decide_eq_false c24
         clear c24
         obtain rfl := Option.some.inj H
         have hnb37 := NB429_430.out
         have hnc37 := NB430_429.out
         have hcz38_0 : wr.cell? ⟨gb429, 0, none⟩ = some (.int .i64 a0_0) := (blk_cell BK429.out 0).trans rfl
         have hcz38_1 : wr.cell? ⟨gb429, 1, none⟩ = some (.slice A0_1 l0_1.length c0_1) := (blk_cell BK429.out 1).trans rfl
         have hcz38_2 : wr.cell? ⟨gb429, 2, none⟩ = some (.slice A0_2 l0_2.length c0_2) := (blk_cell BK429.out 2).trans rfl
         have hcz38_3 : wr.cell? ⟨gb429, 3, none⟩ = some (.slice A0_3 l0_3.length c0_3) := (blk_cell BK429.out 3).trans rfl
         have hfz38_0 := blk_frozen BK429.out 0
         have hfz38_1 := blk_frozen BK429.out 1
         have hfz38_2 := blk_frozen BK429.out 2
         have hfz38_3 := blk_frozen BK429.out 3
         go_wp2
         go_ret
         exact ⟨by first | rfl | (simp [errW_none, errW_some] <;> rfl) | (simp [*, errW_none, errW_some] <;> rfl), by repeat (first | (with_reducible first | exact HB.out | apply below_alloc | apply pw_below_drewN | apply below_drew1 | refine below_set ?_ GE429.out | refine below_set ?_ GE430.out) | exact HB.out)⟩
end Go.Proofs.YthdfmbmbjpmlaaaGreatDoor.Rn
end
section
set_option linter.unusedVariables false
set_option linter.unusedSimpArgs false
namespace Go.Proofs.YthdfmbmbjpmlaaaGreatDoor.Rn
open Go Go.RowKit Go.Proofs.YthdfmbmbjpmlaaaGreatDoorW.PrintWords Go.Proofs.YthdfmbmbjpmlaaaGreatDoorW.PrintLast Go.Proofs.YthdfmbmbjpmlaaaGreatDoorW.PrintMore
def EvS {α : Type} (g : Nat → Option α) (r : α) : Prop := ∃ K, ∀ k, K ≤ k → g k = some r
theorem EvS.succ {α : Type} {g h : Nat → Option α} {r : α} (e : ∀ k, g (k + 1) = h k) (H : EvS h r) : EvS g r := by
 obtain ⟨K, hK⟩ := H
 refine ⟨K + 1, fun k hk => ?_⟩
 obtain ⟨k, rfl⟩ : ∃ m, k = m + 1 := ⟨k - 1, by omega⟩
 rw [e]
 exact hK k (by omega)
theorem EvS.now {α : Type} {r : α} : EvS (fun _ => some r) r := ⟨0, fun _ _ => rfl⟩
theorem EvS.bind {α β : Type} {g : Nat → Option α} {r : α} {h : Nat → α → Option β} {s : β} (H : EvS g r) (H2 : EvS (fun k => h k r) s) : EvS (fun k => (g k).bind (h k)) s := by
 obtain ⟨K, hK⟩ := H
 obtain ⟨L, hL⟩ := H2
 refine ⟨max K L, fun k hk => ?_⟩
 show (g k).bind (h k) = some s
 rw [hK k (by omega)]
 exact hL k (by omega)
theorem EvS.congr {α : Type} {g h : Nat → Option α} {r : α} (e : ∀ k, g k = h k) (H : EvS h r) : EvS g r := by
 obtain ⟨K, hK⟩ := H
 exact ⟨K, fun k hk => (e k).trans (hK k hk)⟩
theorem rd_pt (l : List Pt) (i : Nat) (hi : i < l.length) : rd_T47 l (i : Int) = l[i] := by
 unfold rd_T47
 rw [Int.toNat_natCast, List.getD_eq_getElem?_getD, List.getElem?_eq_getElem hi]
 rfl
theorem len_size : ∀ l : List Pt, l.length ≤ sizeL l ∧ deepL l ≤ sizeL l
 | [] => ⟨Nat.le_refl _, Nat.le_refl _⟩
 | ⟨a, s, t, m⟩ :: l => by
  have h1 := len_size l
  have h2 := len_size m
  simp only [List.length_cons, sizeL, deepL, sizeP, deepP]
  omega
theorem w64_1 {n : Nat} (h : n ≤ 4000) : wrap64 ((n : Int) + 1) = ((n + 1 : Nat) : Int) := by
 unfold wrap64
 omega
theorem mx_n (a b : Nat) : mx (a : Int) (b : Int) = ((max a b : Nat) : Int) := by
 unfold mx
 split <;> omega
mutual
theorem rcnt_ev : ∀ (x : Pt), sizeP x ≤ 1000 → EvS (fun k => goboref11_CountPat.f k x.f0 x.f1 x.f2 x.f3) ((sizeP x : Int), (deepP x : Int))
 | ⟨a, s, t, l⟩, h => by
  simp only [sizeP] at h
  have hls := len_size l
  refine EvS.succ (h := fun k => goboref11_CountPat.l0 k 1 0 0 a s t l) (fun k => by simp only [goboref11_CountPat.f]) ?_
  have := rcnt_evl a s t l l 0 1 0 rfl (by omega) (by omega) (by omega) (by omega)
  simp only [sizeP, deepP]
  rw [Nat.add_comm 1, Nat.zero_max] at this
  exact this
theorem rcnt_evl (a : Int) (s t : List ByteArray) : ∀ (r l : List Pt) (i n d : Nat), l.drop i = r → i ≤ l.length → l.length ≤ 1000 → 1 ≤ n ∧ n + sizeL r ≤ 1001 → d ≤ 1001 → EvS (fun k => goboref11_CountPat.l0 k (n : Int) (d : Int) (i : Int) a s t l) (((n + sizeL r : Nat) : Int), ((max d (deepL r) + 1 : Nat) : Int))
 | [], l, i, n, d, e, hi, hl, hn, hd => by
  have hl : l.length ≤ i := by
   have := congrArg List.length e
   simp at this
   omega
  refine EvS.succ (h := fun k => some ((n : Int), wrap64 ((d : Int) + 1))) (fun k => by simp only [goboref11_CountPat.l0]; rw [if_neg (by omega)]) ?_
  rw [w64_1 (by omega)]
  simp only [sizeL, deepL, Nat.add_zero, Nat.max_zero]
  exact EvS.now
 | x :: r, l, i, n, d, e, hi, hl, hn, hd => by
  have hlt : i < l.length := by
   have := congrArg List.length e
   simp at this
   omega
  have hx : l[i] = x ∧ l.drop (i + 1) = r := by
   rw [List.drop_eq_getElem_cons hlt] at e
   injection e with e1 e2
   exact ⟨e1, e2⟩
  simp only [sizeL] at hn
  have hls := len_size [x]
  simp only [deepL, sizeL] at hls
  refine EvS.succ (h := fun k => (goboref11_CountPat.f k x.f0 x.f1 x.f2 x.f3).bind fun b => goboref11_CountPat.l0 k (wrap64 ((n : Int) + b.1)) (mx (d : Int) b.2) (wrap64 ((i : Int) + 1)) a s t l) (fun k => by
   simp only [goboref11_CountPat.l0]
   rw [if_pos (by omega), if_pos (by omega), if_pos (by omega), rd_pt l i hlt, hx.1]) ?_
  refine EvS.bind (rcnt_ev x (by omega)) ?_
  have e1 : wrap64 ((n : Int) + (sizeP x : Int)) = ((n + sizeP x : Nat) : Int) := by unfold wrap64; omega
  simp only [e1, mx_n, w64_1 (show i ≤ 4000 by omega)]
  have := rcnt_evl a s t r l (i + 1) (n + sizeP x) (max d (deepP x)) hx.2 (by omega) hl (by omega) (by omega)
  simp only [sizeL, deepL]
  rw [← Nat.add_assoc, ← Nat.max_assoc]
  exact this
end
theorem rtexts_l (l m : List ByteArray) (hlm : l.length = m.length) (hl : l.length ≤ 9223372036854775807) (d : Nat) : ∀ (i : Nat), i ≤ l.length → l.length - i = d → EvS (fun k => goboref11_texts.l0 k l m (i : Int)) (eqL txQ (l.drop i) (m.drop i)) := by
 induction d with
 | zero =>
  intro i h1 h2
  refine EvS.succ (h := fun _ => some true) (fun k => by simp only [goboref11_texts.l0]; rw [if_neg (by omega)]) ?_
  rw [List.drop_of_length_le (by omega), List.drop_of_length_le (by omega)]
  exact EvS.now
 | succ d ih =>
  intro i h1 h2
  have hi : i < l.length := by omega
  have hj : i < m.length := by omega
  have e2 : wrap64 ((i : Int) + 1) = ((i + 1 : Nat) : Int) := by unfold wrap64; omega
  have hi2 := ih (i + 1) (by omega) (by omega)
  rw [eqL_drop txQ hi hj]
  obtain ⟨x, hx⟩ : ∃ x, l[i] = x := ⟨_, rfl⟩
  obtain ⟨y, hy⟩ : ∃ y, m[i] = y := ⟨_, rfl⟩
  rw [hx, hy]
  refine EvS.succ (h := fun k => if x.toList = y.toList then goboref11_texts.l0 k l m ((i + 1 : Nat) : Int) else some false) (fun k => by
   simp only [goboref11_texts.l0]
   rw [if_pos (by omega), if_pos (by omega), if_pos (by omega), rdOf_at l i hi, rdOf_at m i hj, e2, hx, hy]) ?_
  clear hx hy e2 ih h1 h2
  unfold txQ at hi2 ⊢
  by_cases h0 : x = y
  · subst h0
    simp only [if_true, decide_true, Bool.true_and]
    exact hi2
  · have h1 : ¬ (x.toList = y.toList) := fun e => h0 (text_ext e)
    simp only [h1, if_false, h0, decide_false, Bool.false_and]
    exact EvS.now
theorem rtexts_ev (l m : List ByteArray) (hl : l.length ≤ 9223372036854775807) : EvS (fun k => goboref11_texts.f k l m) (eqL txQ l m) := by
 by_cases h : l.length = m.length
 · exact EvS.congr (h := fun k => goboref11_texts.l0 k l m ((0 : Nat) : Int)) (fun k => by unfold goboref11_texts.f; rw [if_pos (by omega)]; rfl) (rtexts_l l m h hl l.length 0 (by omega) (by omega))
 · rw [eqL_len _ h]
   exact EvS.congr (h := fun k => some false) (fun k => by unfold goboref11_texts.f; rw [if_neg (by omega)]) EvS.now
mutual
/-- no row is longer than Go lets one be -/
def smallP : Pt → Prop
 | ⟨_, s, t, l⟩ => s.length ≤ 9223372036854775807 ∧ t.length ≤ 9223372036854775807 ∧ l.length ≤ 9223372036854775807 ∧ smallL l
def smallL : List Pt → Prop
 | [] => True
 | x :: l => smallP x ∧ smallL l
end
theorem smallL_of : ∀ {l : List Pt}, (∀ x, x ∈ l → smallP x) → smallL l
 | [], _ => trivial
 | x :: l, h => ⟨h x (List.mem_cons_self ..), smallL_of (fun y hy => h y (List.mem_cons_of_mem _ hy))⟩
theorem small_of : ∀ (N : Nat) (x : Pt), sizeP x < N → ∀ (w : World) (cs : List Value), kPt.K w x cs → smallP x
 | 0, x, h, _, _, _ => absurd h (Nat.not_lt_zero _)
 | N + 1, ⟨a, s, t, l⟩, h, w, cs, hK => by
  obtain ⟨A1, p1, A2, p2, A3, p3, rfl, hp1, hC1, hp2, hC2, hp3, hC3⟩ := k47_open hK
  have h1 : s.length ≤ 9223372036854775807 := hC1.2.1
  have h2 : t.length ≤ 9223372036854775807 := hC2.2.1
  have h3 : l.length ≤ 9223372036854775807 := hC3.2.1
  refine ⟨h1, h2, h3, smallL_of (fun x hx => ?_)⟩
  obtain ⟨i, hi, rfl⟩ := List.getElem_of_mem hx
  obtain ⟨g, o, rfl, _, hcell⟩ := row_cells hC3 (show 0 < l.length by omega) (by decide)
  obtain ⟨ds, _, hK2, _⟩ := hcell i l[i] (List.getElem?_eq_getElem hi)
  refine small_of N l[i] ?_ w ds hK2
  have hs : ∀ {m : List Pt} {y : Pt}, y ∈ m → sizeP y ≤ sizeL m := fun {m} => by
   induction m with
   | nil => intro y hy; simp at hy
   | cons z m ih =>
    intro y hy
    simp only [sizeL]
    rcases List.mem_cons.1 hy with rfl | hy
    · omega
    · have := ih hy; omega
  have := hs hx
  simp only [sizeP] at h
  omega
theorem samePl_len : ∀ {l m : List Pt}, l.length ≠ m.length → samePl l m = false
 | [], [], h => absurd rfl h
 | [], _ :: _, _ => by rw [samePl]
 | _ :: _, [], _ => by rw [samePl]
 | x :: l, y :: m, h => by rw [samePl, samePl_len (fun e => h (by simp [e])), Bool.and_false]
mutual
theorem rsame_ev : ∀ (x y : Pt), smallP x → EvS (fun k => goboref11_SamePat.f k x.f0 x.f1 x.f2 x.f3 y.f0 y.f1 y.f2 y.f3) (samePt x y)
 | ⟨a, s, t, l⟩, ⟨b, s', t', m⟩, h => by
  simp only [smallP] at h
  have e1 := rtexts_ev s s' h.1
  have e2 := rtexts_ev t t' h.2.1
  have jt : EvS (fun k => goboref11_SamePat.j0 k true a s t l b s' t' m) false := EvS.succ (h := fun _ => some false) (fun k => by simp only [goboref11_SamePat.j0, if_true]) EvS.now
  rw [samePt]
  by_cases ha : a = b
  · have ha' : (a == (⟨b, s', t', m⟩ : Pt).f0) = true := beq_iff_eq.2 ha
    rw [ha', Bool.true_and]
    by_cases hl : l.length = m.length
    · refine EvS.succ (h := fun k => (goboref11_texts.f k s s').bind fun u => if u = true then ((goboref11_texts.f k t t').bind fun v => goboref11_SamePat.j0 k (!v) a s t l b s' t' m) else goboref11_SamePat.j0 k true a s t l b s' t' m) (fun k => by
       simp only [goboref11_SamePat.f]
       rw [if_pos ha, if_pos (by omega)]) ?_
      refine EvS.bind e1 ?_
      show EvS _ (eqL txQ s s' && (eqL txQ t t' && samePl l m))
      cases h1 : eqL txQ s s' with
      | false =>
       simp only [Bool.false_eq_true, if_false, Bool.false_and]
       exact jt
      | true =>
       simp only [if_true, Bool.true_and]
       refine EvS.bind e2 ?_
       cases h2 : eqL txQ t t' with
       | false =>
        simp only [Bool.not_false, Bool.false_and]
        exact jt
       | true =>
        simp only [Bool.not_true, Bool.true_and]
        refine EvS.succ (h := fun k => goboref11_SamePat.l0 k ((0 : Nat) : Int) a s t l b s' t' m) (fun k => by simp only [goboref11_SamePat.j0]; rw [if_neg (by simp)]; rfl) ?_
        exact rsame_evl a s t b s' t' l l m m 0 rfl rfl hl (by omega) h.2.2.1 h.2.2.2
    · rw [show samePl l (⟨b, s', t', m⟩ : Pt).f3 = false from samePl_len hl, Bool.and_false, Bool.and_false]
      refine EvS.succ (h := fun k => goboref11_SamePat.j0 k true a s t l b s' t' m) (fun k => by
       simp only [goboref11_SamePat.f]
       rw [if_pos ha, if_neg (by omega)]) jt
  · have ha' : (a == (⟨b, s', t', m⟩ : Pt).f0) = false := beq_eq_false_iff_ne.2 ha
    rw [ha', Bool.false_and]
    refine EvS.succ (h := fun k => goboref11_SamePat.j0 k true a s t l b s' t' m) (fun k => by
     simp only [goboref11_SamePat.f]
     rw [if_neg ha]) jt
theorem rsame_evl (a : Int) (s t : List ByteArray) (b : Int) (s' t' : List ByteArray) : ∀ (r l r' m : List Pt) (i : Nat), l.drop i = r → m.drop i = r' → l.length = m.length → i ≤ l.length → l.length ≤ 9223372036854775807 → smallL r → EvS (fun k => goboref11_SamePat.l0 k (i : Int) a s t l b s' t' m) (samePl r r')
 | [], l, r', m, i, e, e', hlm, hi, hl, hs => by
  have h1 : l.length ≤ i := by
   have := congrArg List.length e
   simp at this
   omega
  have h2 : r' = [] := by rw [← e']; exact List.drop_of_length_le (by omega)
  subst h2
  rw [samePl]
  exact EvS.succ (h := fun _ => some true) (fun k => by simp only [goboref11_SamePat.l0]; rw [if_neg (by omega)]) EvS.now
 | x :: r, l, [], m, i, e, e', hlm, hi, hl, hs => by
  have h1 := congrArg List.length e
  have h2 := congrArg List.length e'
  simp at h1 h2
  omega
 | x :: r, l, y :: r', m, i, e, e', hlm, hi, hl, hs => by
  have hlt : i < l.length := by
   have := congrArg List.length e
   simp at this
   omega
  have hx : l[i] = x ∧ l.drop (i + 1) = r := by
   rw [List.drop_eq_getElem_cons hlt] at e
   injection e with e1 e2
   exact ⟨e1, e2⟩
  have hy : m[i]'(by omega) = y ∧ m.drop (i + 1) = r' := by
   rw [List.drop_eq_getElem_cons (by omega)] at e'
   injection e' with e1 e2
   exact ⟨e1, e2⟩
  simp only [smallL] at hs
  have e2 : wrap64 ((i : Int) + 1) = ((i + 1 : Nat) : Int) := by unfold wrap64; omega
  rw [samePl]
  refine EvS.succ (h := fun k => (goboref11_SamePat.f k x.f0 x.f1 x.f2 x.f3 y.f0 y.f1 y.f2 y.f3).bind fun u => if u = true then goboref11_SamePat.l0 k ((i + 1 : Nat) : Int) a s t l b s' t' m else some false) (fun k => by
   simp only [goboref11_SamePat.l0]
   rw [if_pos (by omega), if_pos (by omega), if_pos (by omega), rd_pt l i hlt, rd_pt m i (by omega), hx.1, hy.1, e2]) ?_
  refine EvS.bind (rsame_ev x y hs.1) ?_
  cases h1 : samePt x y with
  | false =>
   simp only [Bool.false_eq_true, if_false, Bool.false_and]
   exact EvS.now
  | true =>
   simp only [if_true, Bool.true_and]
   exact rsame_evl a s t b s' t' r l r' m (i + 1) hx.2 hy.2 hlm (by omega) hl hs.2
end
mutual
theorem same_self : ∀ x : Pt, samePt x x = true
 | ⟨a, s, t, l⟩ => by
  have h : ∀ l : List ByteArray, eqL txQ l l = true := fun l => by
   induction l with
   | nil => rfl
   | cons x l ih => rw [eqL, ih]; simp [txQ]
  rw [samePt, h, h, same_selfl l]
  simp
theorem same_selfl : ∀ l : List Pt, samePl l l = true
 | [] => by rw [samePl]
 | x :: l => by rw [samePl, same_self x, same_selfl l]; rfl
end
end Go.Proofs.YthdfmbmbjpmlaaaGreatDoor.Rn
end
section
set_option linter.unusedVariables false
set_option linter.unusedSimpArgs false
namespace Go.Proofs.YthdfmbmbjpmlaaaGreatDoor.Rn
open Go Go.RowKit Go.Proofs.YthdfmbmbjpmlaaaGreatDoorW.PrintWords Go.Proofs.YthdfmbmbjpmlaaaGreatDoorW.PrintLast Go.Proofs.YthdfmbmbjpmlaaaGreatDoorW.PrintMore
theorem rcntP_any (x : Pt) (hs : sizeP x ≤ 1000) (w0 W : World) (cs : List Value) (hB : Below w0.heap.size w0 W) (hK : kPt.K w0 x cs) :
 Calls Tryz.prog 56 #[.agg cs.toArray] W fun e W' => e = .returned (.tuple #[.int .i64 (sizeP x), .int .i64 (deepP x)]) ∧ Below W.heap.size W W' := by
 obtain ⟨A1, p1, A2, p2, A3, p3, rfl, q1, C1, q2, C2, q3, C3⟩ := k47_open hK
 obtain ⟨K, h⟩ := rcnt_ev x hs
 exact goboref11_CountPat.calls K x.f0 A1 p1 x.f1 A2 p2 x.f2 A3 p3 x.f3 _ _ W (Kd.C_below C1 hB) q1 (Kd.C_below C2 hB) q2 (Kd.C_below C3 hB) q3 (h K (Nat.le_refl K))
theorem rsame_any (x y : Pt) (w0 W : World) (cs ds : List Value) (hB : Below w0.heap.size w0 W) (hK : kPt.K w0 x cs) (hL : kPt.K w0 y ds) :
 Calls Tryz.prog 35 #[.agg cs.toArray, .agg ds.toArray] W fun e W' => e = .returned (.bool (samePt x y)) ∧ Below W.heap.size W W' := by
 have hsm := small_of (sizeP x + 1) x (Nat.lt_succ_self _) w0 cs hK
 obtain ⟨A1, p1, A2, p2, A3, p3, rfl, q1, C1, q2, C2, q3, C3⟩ := k47_open hK
 obtain ⟨B1, r1, B2, r2, B3, r3, rfl, t1, D1, t2, D2, t3, D3⟩ := k47_open hL
 obtain ⟨K, h⟩ := rsame_ev x y hsm
 exact goboref11_SamePat.calls K x.f0 A1 p1 x.f1 A2 p2 x.f2 A3 p3 x.f3 y.f0 B1 r1 y.f1 B2 r2 y.f2 B3 r3 y.f3 _ W (Kd.C_below C1 hB) q1 (Kd.C_below C2 hB) q2 (Kd.C_below C3 hB) q3 (Kd.C_below D1 hB) t1 (Kd.C_below D2 hB) t2 (Kd.C_below D3 hB) t3 (h K (Nat.le_refl K))
end Go.Proofs.YthdfmbmbjpmlaaaGreatDoor.Rn
end
section
set_option linter.unusedVariables false
set_option linter.unusedSimpArgs false
namespace Go.Proofs.YthdfmbmbjpmlaaaGreatDoor.Rn
open Go Go.RowKit Go.Proofs.YthdfmbmbjpmlaaaGreatDoorW.PrintWords Go.Proofs.YthdfmbmbjpmlaaaGreatDoorW.PrintLast Go.Proofs.YthdfmbmbjpmlaaaGreatDoorW.PrintMore
theorem stepsS_at (T : List Tok) (free : Bool) {l : List Stp} {m : Nat} {s : Stp} (h : l[m]? = some s) :
 stepsS T free m (l.drop m) = if (decide (0 < s.f0.length) == (decide (0 < m) || free)) = true then orS (namesS T 1 [] s.f0) (orS (patS T s.f1) (stepsS T free (m + 1) (l.drop (m + 1)))) else some 5 := by
 have hlt := (List.getElem?_eq_some_iff.1 h).1
 obtain rfl : l[m] = s := (List.getElem?_eq_some_iff.1 h).2
 rw [List.drop_eq_getElem_cons hlt, stepsS]
theorem patS_ne (T : List Tok) (x : Pt) (c : Int) (h : patS T x = some c) : c ≠ 0 := by
 unfold patS at h
 split at h
 · exact nodeR_ne T x c h
 · injection h with h; omega
set_option maxHeartbeats 40000000 in
set_option maxRecDepth 100000 in
theorem rrule_any (T : List Tok) (x : Rul) (hsz : ∀ s, s ∈ x.f2 → sizeP s.f1 ≤ 1000) (AT AR : Option Addr) (ct cr nR : Nat) (w0 W : World) (cs : List Value) (hB : Below w0.heap.size w0 W) (hK0 : kRul.K w0 x cs) (hT : kTok.C W AT T.length T) :
 Calls Tryz.prog 27 #[.agg #[.slice AT T.length ct, .slice AR nR cr], .agg cs.toArray] W fun e W' => e = .returned (.int .i64 (codeI (ruleS T x))) ∧ Below W.heap.size W W' := by
 obtain ⟨A2, c2, rfl, l2, C2⟩ := k43_open hK0
 have HSZ := Aside0.mk hsz
 have HT := Aside0.mk hT
 have HC2 := Aside0.mk (Kd.C_below C2 hB)
 have hl2 : x.f2.length ≤ 9223372036854775807 := C2.2.1
 obtain ⟨res, hres⟩ : ∃ r, ruleS T x = r := ⟨_, rfl⟩
 have HR : Aside0 (orS (classS x.f0) (if 1 ≤ x.f2.length ∧ x.f2.length ≤ 4 then stepsS T x.f1 0 x.f2 else some 6) = res) := ⟨hres⟩
 rw [hres]
 clear hsz hT C2 hres hK0 hB
 go_enter Tryz.func27, Tryz.ntmps27
 go_upto_region 1 with (fail)
 obtain ⟨wa, hwa⟩ : ∃ z, W.alloc (.cells #[.slice AT T.length ct, .slice AR nR cr] 25) = z := ⟨_, rfl⟩
 obtain ⟨w1, hw1⟩ : ∃ z, wa.alloc (.cells #[.int .i64 x.f0, .bool x.f1, .slice A2 x.f2.length c2] 43) = z := ⟨_, rfl⟩
 obtain ⟨bg, hbg⟩ : ∃ z, W.heap.size = z := ⟨_, rfl⟩
 have hs1 : wa.heap.size = bg + 1 := by rw [← hwa, ← hbg]; simp
 have HBa : Below W.heap.size W wa := hwa ▸ below1 _ _
 have HBb : Below wa.heap.size wa w1 := hw1 ▸ below1 _ _
 have HB0 : Aside0 (Below W.heap.size W w1) := ⟨join_below HBa HBb⟩
 have HKG : Aside0 (w1.heap[bg]? = some (.cells #[.slice AT T.length ct, .slice AR nR cr] 25 (0, 0))) := ⟨blk_below (by rw [← hwa, ← hbg]; exact blk_new _ _) HBb⟩
 have HKP : Aside0 (w1.heap[bg + 1]? = some (.cells #[.int .i64 x.f0, .bool x.f1, .slice A2 x.f2.length c2] 43 (0, 0))) := ⟨by rw [← hs1, ← hw1]; exact blk_new _ _⟩
 rw [hwa, hw1, hbg]
 clear hwa hw1 hs1 HBa HBb hbg
 have y0 : w1.cell? ⟨bg + 1, 0, none⟩ = some (.int .i64 x.f0) := (blk_cell HKP.out 0).trans rfl
 have y2 : w1.cell? ⟨bg + 1, 2, none⟩ = some (.slice A2 x.f2.length c2) := (blk_cell HKP.out 2).trans rfl
 by_cases hc : 0 ≤ x.f0 ∧ x.f0 ≤ 31 ∧ 1 ≤ x.f2.length ∧ x.f2.length ≤ 4
 case neg =>
  have HRR : Aside0 (res = some 6) := ⟨by
   have h := HR.out
   unfold classS at h
   by_cases c1 : 0 ≤ x.f0 ∧ x.f0 ≤ 31
   · rw [if_pos c1, if_neg (by omega)] at h
     exact h.symm
   · rw [if_neg c1] at h
     exact h.symm⟩
  have h4 : x.f0 < 0 ∨ (¬ x.f0 < 0 ∧ 31 < x.f0) ∨ (¬ x.f0 < 0 ∧ ¬ 31 < x.f0 ∧ x.f2.length < 1) ∨ (¬ x.f0 < 0 ∧ ¬ 31 < x.f0 ∧ ¬ x.f2.length < 1 ∧ 4 < x.f2.length) := by omega
  clear hc
  rcases h4 with h | ⟨h, h1⟩ | ⟨h, h1, h2⟩ | ⟨h, h1, h2, h3⟩
  · skip
    have d0 : decide (x.f0 < 0) = true := decide_eq_true (by omega)
    clear h
    go_wp2
    go_ret
    rw [HRR.out]
    exact ⟨rfl, HB0.out⟩
  · skip
    have d0 : decide (x.f0 < 0) = false := decide_eq_false (by omega)
    have d1 : decide (31 < x.f0) = true := decide_eq_true (by omega)
    clear h h1
    go_wp2
    go_ret
    rw [HRR.out]
    exact ⟨rfl, HB0.out⟩
  · skip
    have d0 : decide (x.f0 < 0) = false := decide_eq_false (by omega)
    have d1 : decide (31 < x.f0) = false := decide_eq_false (by omega)
    have d2 : decide (x.f2.length < 1) = true := decide_eq_true (by omega)
    have d2z : decide ((x.f2.length : Int) < 1) = true := decide_eq_true (by omega)
    have hz0 : x.f2.length = 0 := by omega
    clear h h1 h2 hz0
    go_wp2
    go_ret
    rw [HRR.out]
    exact ⟨rfl, HB0.out⟩
  · skip
    have d0 : decide (x.f0 < 0) = false := decide_eq_false (by omega)
    have d1 : decide (31 < x.f0) = false := decide_eq_false (by omega)
    have d2 : decide (x.f2.length < 1) = false := decide_eq_false (by omega)
    have d2z : decide ((x.f2.length : Int) < 1) = false := decide_eq_false (by omega)
    have d3 : decide (4 < x.f2.length) = true := decide_eq_true (by omega)
    have d3z : decide (4 < (x.f2.length : Int)) = true := decide_eq_true (by omega)
    clear h h1 h2 h3
    go_wp2
    go_ret
    rw [HRR.out]
    exact ⟨rfl, HB0.out⟩
 case pos =>
  have HR2 : Aside0 (stepsS T x.f1 0 (x.f2.drop 0) = res) := ⟨by
   have h := HR.out
   unfold classS at h
   rw [if_pos ⟨hc.1, hc.2.1⟩, if_pos hc.2.2] at h
   exact h⟩
  have d0 : decide (x.f0 < 0) = false := decide_eq_false (by omega)
  have d1 : decide (31 < x.f0) = false := decide_eq_false (by omega)
  have d2 : decide (x.f2.length < 1) = false := decide_eq_false (by omega)
  have d2z : decide ((x.f2.length : Int) < 1) = false := decide_eq_false (by omega)
  have d3 : decide (4 < x.f2.length) = false := decide_eq_false (by omega)
  have d3z : decide (4 < (x.f2.length : Int)) = false := decide_eq_false (by omega)
  have hx4 : x.f2.length ≤ 4 := hc.2.2.2
  clear hc
  go_wp2_with fail
  clear d0 d1 d2 d2z d3 d3z y0 y2
  go_loopw [5] (fun i w => ∃ m : Nat, i = .int .i64 (m : Int) ∧ m ≤ x.f2.length ∧ Aside0 (Below w1.heap.size w1 w ∧ stepsS T x.f1 m (x.f2.drop m) = res)) (fun i _ => x.f2.length - (intOf i).toNat)
  case atStart => exact ⟨0, rfl, Nat.zero_le _, ⟨⟨Below.refl _ _, HR2.out⟩⟩⟩
  case round =>
   obtain ⟨m, rfl, hm, HS⟩ := hrel
   obtain ⟨w6, hw6⟩ : ∃ z, wr = z := ⟨_, rfl⟩
   rw [hw6] at HS ⊢
   clear hw6
   have HB6 := Aside0.mk (join_below HB0.out HS.out.1)
   have y2 : w6.cell? ⟨bg + 1, 2, none⟩ = some (.slice A2 x.f2.length c2) := (blk_cell (blk_below HKP.out HS.out.1) 2).trans rfl
   by_cases hlt : m < x.f2.length
   · have e1 : decide (m < x.f2.length) = true := decide_eq_true hlt
     have hin : (m : Int) < x.f2.length := by omega
     obtain ⟨gs, os, hA, _, hcell⟩ := row_cells HC2.out (by omega) (by decide)
     subst hA
     obtain ⟨s, hs⟩ : ∃ s, x.f2[m]? = some s := ⟨_, List.getElem?_eq_getElem hlt⟩
     obtain ⟨cs, _, hK, hcc⟩ := hcell m s hs
     obtain ⟨B0, d0, B2, d2, B3, d3, B4, d4, rfl, f0, E0, f2, E2, f3, E3, f4, E4⟩ := k49_open hK
     have HKP2 : Aside0 (k47.K W s.f1 [.int .i64 s.f1.f0, .slice B2 s.f1.f1.length d2, .slice B3 s.f1.f2.length d3, .slice B4 s.f1.f3.length d4]) := ⟨k47_mk W s.f1 f2 E2 f3 E3 f4 E4⟩
     have HE0 := Aside0.mk E0
     have x0 := cell_after HB6.out (hcc 0 (.slice B0 s.f0.length d0) rfl)
     have x1 := cell_after HB6.out (hcc 1 (.int .i64 s.f1.f0) rfl)
     have x2 := cell_after HB6.out (hcc 2 (.slice B2 s.f1.f1.length d2) rfl)
     have x3 := cell_after HB6.out (hcc 3 (.slice B3 s.f1.f2.length d3) rfl)
     have x4 := cell_after HB6.out (hcc 4 (.slice B4 s.f1.f3.length d4) rfl)
     rw [Nat.add_zero] at x0
     simp only [show k49.sz = 5 from rfl] at x0 x1 x2 x3 x4
     have HSS := Aside0.mk hs
     have HLN := Aside0.mk hlt
     have HAT := Aside0.mk ((stepsS_at T x.f1 hs).symm.trans HS.out.2)
     have hs1000 := HSZ.out s (List.mem_of_getElem? hs)
     clear hcell hcc hK hs hlt f2 E2 f3 E3 f4 E4 f0 E0
     go_upto_region 7 with (fail)
     obtain ⟨w7, hw7⟩ : ∃ z, w6.alloc (.cells #[.slice B0 s.f0.length d0, .int .i64 s.f1.f0, .slice B2 s.f1.f1.length d2, .slice B3 s.f1.f2.length d3, .slice B4 s.f1.f3.length d4] 49) = z := ⟨_, rfl⟩
     obtain ⟨bs, hbs⟩ : ∃ z, w6.heap.size = z := ⟨_, rfl⟩
     have HB67 : Aside0 (Below w6.heap.size w6 w7) := ⟨hw7 ▸ below1 _ _⟩
     have HKS : Aside0 (w7.heap[bs]? = some (.cells #[.slice B0 s.f0.length d0, .int .i64 s.f1.f0, .slice B2 s.f1.f1.length d2, .slice B3 s.f1.f2.length d3, .slice B4 s.f1.f3.length d4] 49 (0, 0))) := ⟨by rw [← hw7, ← hbs]; exact blk_new _ _⟩
     rw [hw7, hbs]
     clear hw7 hbs x0 x1 x2 x3 x4 y2 e1
     have HB17 := Aside0.mk (join_below HS.out.1 HB67.out)
     have HKG7 := Aside0.mk (blk_below HKG.out HB17.out)
     have HKP7 := Aside0.mk (blk_below HKP.out HB17.out)
     have x0 : w7.cell? ⟨bs, 0, none⟩ = some (.slice B0 s.f0.length d0) := (blk_cell HKS.out 0).trans rfl
     have y1 : w7.cell? ⟨bg + 1, 1, none⟩ = some (.bool x.f1) := (blk_cell HKP7.out 1).trans rfl
     go_cut [53] (fun v w' => v = .bool (!(decide (0 < s.f0.length) == (decide (0 < m) || x.f1))) ∧ w' = w7)
     case first =>
      have HQ : Aside0 (∀ p1 p2 p3 : Bool, decide (0 < s.f0.length) = p1 → decide (0 < m) = p2 → x.f1 = p3 → Value.bool (!(p1 == (p2 || p3))) = Value.bool (!(decide (0 < s.f0.length) == (decide (0 < m) || x.f1)))) := ⟨fun p1 p2 p3 h1 h2 h3 => by rw [h1, h2, h3]⟩
      generalize hp1 : decide (0 < s.f0.length) = p1
      generalize hp2 : decide (0 < m) = p2
      have HP1 := Aside0.mk hp1
      have HP2 := Aside0.mk hp2
      obtain ⟨p3, hp3⟩ : ∃ p, x.f1 = p := ⟨_, rfl⟩
      rw [hp3] at y1
      have HP3 := Aside0.mk hp3
      clear hp3
      cases p1 <;> cases p2 <;> cases p3
      all_goals
       go_wp2
       go_meet
       case rel => exact ⟨by rw [HP3.out, HP1.out, HP2.out]; rfl, rfl⟩
     obtain ⟨rfl, hcw⟩ := hcut
     rw [hcw]
     clear hcw y1
     by_cases hq : (decide (0 < s.f0.length) == (decide (0 < m) || x.f1)) = true
     case neg =>
      have HRR : Aside0 (res = some 5) := ⟨by
       have h := HAT.out
       rw [if_neg hq] at h
       exact h.symm⟩
      have hq2 : (decide (0 < s.f0.length) == (decide (0 < m) || x.f1)) = false := by simpa using hq
      rw [hq2]
      clear hq hq2 x0
      go_wp2
      go_ret
      rw [HRR.out]
      exact ⟨rfl, join_below HB0.out HB17.out⟩
     case pos =>
      have HA2 : Aside0 (orS (namesS T 1 [] s.f0) (orS (patS T s.f1) (stepsS T x.f1 (m + 1) (x.f2.drop (m + 1)))) = res) := ⟨by
       have h := HAT.out
       rw [if_pos hq] at h
       exact h⟩
      rw [hq]
      clear hq HAT
      have g0 : w7.cell? ⟨bg, 0, none⟩ = some (.slice AT T.length ct) := (blk_cell HKG7.out 0).trans rfl
      have g1 : w7.cell? ⟨bg, 1, none⟩ = some (.slice AR nR cr) := (blk_cell HKG7.out 1).trans rfl
      have HB7 := Aside0.mk (join_below HB0.out HB17.out)
      go_wp2_with fail
      refine (rnames_any T AT AR ct cr nR s.f0 B0 d0 1 w7 (Kd.C_below HT.out HB7.out) (Kd.C_below HE0.out HB7.out)).mono ?_
      rintro e w8 ⟨rfl, hb⟩
      have HB8 := Aside0.mk (join_below HB17.out hb)
      have HKG8 := Aside0.mk (blk_below HKG7.out hb)
      have HKS8 := Aside0.mk (blk_below HKS.out hb)
      clear hb g0 g1 x0
      obtain ⟨r1, hr1⟩ : ∃ z, namesS T 1 [] s.f0 = z := ⟨_, rfl⟩
      have HR1 := Aside0.mk hr1
      rw [hr1] at HA2 ⊢
      clear hr1
      cases r1 with
      | some c =>
       have hne := namesS_ne T 1 _ _ c HR1.out
       have e1 : (codeI (some c) == 0) = false := beq_eq_false_iff_ne.2 hne
       have HRR : Aside0 (res = some c) := ⟨HA2.out.symm⟩
       clear hne
       go_wp2
       go_ret
       rw [HRR.out]
       exact ⟨rfl, join_below HB0.out HB8.out⟩
      | none =>
       have e1 : (codeI none == 0) = true := rfl
       have HA3 : Aside0 (orS (patS T s.f1) (stepsS T x.f1 (m + 1) (x.f2.drop (m + 1))) = res) := ⟨HA2.out⟩
       clear HA2 HR1
       have x1 : w8.cell? ⟨bs, 1, none⟩ = some (.int .i64 s.f1.f0) := (blk_cell HKS8.out 1).trans rfl
       have x2 : w8.cell? ⟨bs, 2, none⟩ = some (.slice B2 s.f1.f1.length d2) := (blk_cell HKS8.out 2).trans rfl
       have x3 : w8.cell? ⟨bs, 3, none⟩ = some (.slice B3 s.f1.f2.length d3) := (blk_cell HKS8.out 3).trans rfl
       have x4 : w8.cell? ⟨bs, 4, none⟩ = some (.slice B4 s.f1.f3.length d4) := (blk_cell HKS8.out 4).trans rfl
       go_wp2_with fail
       refine (rcntP_any s.f1 hs1000 W w8 _ (join_below HB0.out HB8.out) HKP2.out).mono ?_
       rintro e w9 ⟨rfl, hb⟩
       have HB9 := Aside0.mk (join_below HB8.out hb)
       have HKG9 := Aside0.mk (blk_below HKG8.out hb)
       have HKS9 := Aside0.mk (blk_below HKS8.out hb)
       clear hb x1 x2 x3 x4 e1
       by_cases hf : fewS s.f1 = true
       case neg =>
        have HRR : Aside0 (res = some 6) := ⟨by
         have h := HA3.out
         unfold patS at h
         rw [if_neg hf] at h
         exact h.symm⟩
        have hnf : 60 < sizeP s.f1 ∨ (¬ 60 < sizeP s.f1 ∧ 12 < deepP s.f1) := by
         by_cases h1 : 60 < sizeP s.f1
         · exact Or.inl h1
         · refine Or.inr ⟨h1, ?_⟩
           by_cases h2 : 12 < deepP s.f1
           · exact h2
           · exact absurd (few_of (by omega) (by omega)) hf
        clear hf
        rcases hnf with hn | ⟨hn, hd⟩
        · have e1 : decide (60 < sizeP s.f1) = true := decide_eq_true hn
          have e1z : decide ((60 : Int) < (sizeP s.f1 : Int)) = true := decide_eq_true (by omega)
          clear hn
          go_wp2
          go_ret
          rw [HRR.out]
          exact ⟨rfl, join_below HB0.out HB9.out⟩
        · have e1 : decide (60 < sizeP s.f1) = false := decide_eq_false hn
          have e1z : decide ((60 : Int) < (sizeP s.f1 : Int)) = false := decide_eq_false (by omega)
          have e2 : decide (12 < deepP s.f1) = true := decide_eq_true hd
          have e2z : decide ((12 : Int) < (deepP s.f1 : Int)) = true := decide_eq_true (by omega)
          clear hn hd
          go_wp2
          go_ret
          rw [HRR.out]
          exact ⟨rfl, join_below HB0.out HB9.out⟩
       case pos =>
        have hsz := few_size hf
        have e1 : decide (60 < sizeP s.f1) = false := decide_eq_false (by omega)
        have e2 : decide (12 < deepP s.f1) = false := decide_eq_false (by omega)
        have e1z : decide ((60 : Int) < (sizeP s.f1 : Int)) = false := decide_eq_false (by omega)
        have e2z : decide ((12 : Int) < (deepP s.f1 : Int)) = false := decide_eq_false (by omega)
        have hpn : patS T s.f1 = nodeR T s.f1 := if_pos hf
        have HA4 : Aside0 (orS (nodeR T s.f1) (stepsS T x.f1 (m + 1) (x.f2.drop (m + 1))) = res) := ⟨hpn ▸ HA3.out⟩
        clear hsz hf hpn HA3
        have g0 : w9.cell? ⟨bg, 0, none⟩ = some (.slice AT T.length ct) := (blk_cell HKG9.out 0).trans rfl
        have g1 : w9.cell? ⟨bg, 1, none⟩ = some (.slice AR nR cr) := (blk_cell HKG9.out 1).trans rfl
        have x1 : w9.cell? ⟨bs, 1, none⟩ = some (.int .i64 s.f1.f0) := (blk_cell HKS9.out 1).trans rfl
        have x2 : w9.cell? ⟨bs, 2, none⟩ = some (.slice B2 s.f1.f1.length d2) := (blk_cell HKS9.out 2).trans rfl
        have x3 : w9.cell? ⟨bs, 3, none⟩ = some (.slice B3 s.f1.f2.length d3) := (blk_cell HKS9.out 3).trans rfl
        have x4 : w9.cell? ⟨bs, 4, none⟩ = some (.slice B4 s.f1.f3.length d4) := (blk_cell HKS9.out 4).trans rfl
        go_wp2_with fail
        refine (rpat_any T s.f1 AT AR ct cr nR W w9 _ (join_below HB0.out HB9.out) HKP2.out (Kd.C_below HT.out (join_below HB0.out HB9.out))).mono ?_
        rintro e w10 ⟨rfl, hb⟩
        have HB10 := Aside0.mk (join_below HB9.out hb)
        clear hb x1 x2 x3 x4 g0 g1 e1 e2 e1z e2z
        obtain ⟨r1, hr1⟩ : ∃ z, nodeR T s.f1 = z := ⟨_, rfl⟩
        have HR1 := Aside0.mk hr1
        rw [hr1] at HA4 ⊢
        clear hr1
        cases r1 with
        | some c =>
         have hne := nodeR_ne T _ c HR1.out
         have e1 : (codeI (some c) == 0) = false := beq_eq_false_iff_ne.2 hne
         have HRR : Aside0 (res = some c) := ⟨HA4.out.symm⟩
         clear hne
         go_wp2
         go_ret
         rw [HRR.out]
         exact ⟨rfl, join_below HB0.out HB10.out⟩
        | none =>
         have e1 : (codeI none == 0) = true := rfl
         have HA5 : Aside0 (stepsS T x.f1 (m + 1) (x.f2.drop (m + 1)) = res) := ⟨HA4.out⟩
         clear HA4
         go_wp2
         go_roundw
         case rel => exact ⟨m + 1, by go_num, HLN.out, ⟨⟨HB10.out, HA5.out⟩⟩⟩
         case measure => have := HLN.out; simp [intOf]; omega
   · have e1 : decide (m < x.f2.length) = false := decide_eq_false hlt
     have HRR : Aside0 (res = none) := ⟨by
      have h := HS.out.2
      rw [List.drop_of_length_le (by omega)] at h
      exact h.symm⟩
     clear hlt
     go_wp2
     go_ret
     rw [HRR.out]
     exact ⟨rfl, HB6.out⟩
end Go.Proofs.YthdfmbmbjpmlaaaGreatDoor.Rn
end
section
set_option linter.unusedVariables false
set_option linter.unusedSimpArgs false
namespace Go.Proofs.YthdfmbmbjpmlaaaGreatDoor.Rn
open Go Go.RowKit Go.Proofs.YthdfmbmbjpmlaaaGreatDoorW.PrintWords Go.Proofs.YthdfmbmbjpmlaaaGreatDoorW.PrintLast Go.Proofs.YthdfmbmbjpmlaaaGreatDoorW.PrintMore
def between (lo hi c : Int) : Bool := decide (lo ≤ c) && decide (c ≤ hi)
set_option maxHeartbeats 1000000 in
theorem rsmall_any (c : Int) (W : World) : Calls Tryz.prog 37 #[.int .u8 c] W fun e W' => e = .returned (.bool (between 97 122 c)) ∧ W' = W := by
 have h : ∀ p1 p2 : Bool, decide (97 ≤ c) = p1 → decide (c ≤ 122) = p2 → between 97 122 c = (p1 && p2) := fun p1 p2 h1 h2 => by unfold between; rw [h1, h2]
 generalize d1 : decide (97 ≤ c) = p1 at h
 generalize d2 : decide (c ≤ 122) = p2 at h
 have HB := Aside0.mk (h p1 p2 rfl rfl)
 clear h
 rw [HB.out]
 cases p1 <;> cases p2
 all_goals
  go_enter Tryz.func37, Tryz.ntmps37
  go_wp2
  go_ret
  exact ⟨rfl, rfl⟩
set_option maxHeartbeats 1000000 in
theorem rdigit_any (c : Int) (W : World) : Calls Tryz.prog 38 #[.int .u8 c] W fun e W' => e = .returned (.bool (between 48 57 c)) ∧ W' = W := by
 have h : ∀ p1 p2 : Bool, decide (48 ≤ c) = p1 → decide (c ≤ 57) = p2 → between 48 57 c = (p1 && p2) := fun p1 p2 h1 h2 => by unfold between; rw [h1, h2]
 generalize d1 : decide (48 ≤ c) = p1 at h
 generalize d2 : decide (c ≤ 57) = p2 at h
 have HB := Aside0.mk (h p1 p2 rfl rfl)
 clear h
 rw [HB.out]
 cases p1 <;> cases p2
 all_goals
  go_enter Tryz.func38, Tryz.ntmps38
  go_wp2
  go_ret
  exact ⟨rfl, rfl⟩
theorem letter_at (k : Nat) (c : UInt8) : letterS k c = (between 97 122 c.toNat || (decide (0 < k) && between 48 57 c.toNat)) := by
 unfold letterS between
 by_cases h1 : 97 ≤ c.toNat <;> by_cases h2 : c.toNat ≤ 122 <;> by_cases h3 : 0 < k <;> by_cases h4 : 48 ≤ c.toNat <;> by_cases h5 : c.toNat ≤ 57
 all_goals (simp [h1, h2, h3, h4, h5]; try omega)
theorem own_has (s : ByteArray) : hasT ownL s = (s.toList == [116, 111, 107] || (s.toList == [114, 117, 108, 101] || (s.toList == [105, 110, 116] || (s.toList == [99, 97, 108, 108] || (s.toList == [114, 101, 116] || (s.toList == [102, 114, 101, 101])))))) := by
 unfold hasT ownL
 simp only [List.any_cons, List.any_nil, Bool.or_false]
 have h : ∀ t : ByteArray, decide (s = t) = (s.toList == t.toList) := fun t => by
  by_cases c : s = t
  · rw [decide_eq_true c, c, beq_self_eq_true]
  · rw [decide_eq_false c, beq_eq_false_iff_ne.2 (fun e => c (text_ext e))]
 simp only [h, text_data]
set_option maxHeartbeats 8000000 in
set_option maxRecDepth 100000 in
theorem rname_any (s : ByteArray) (hs : s.size ≤ 9223372036854775807) (W : World) :
 Calls Tryz.prog 12 #[.string s] W fun e W' => e = .returned (.bool (nameS s)) ∧ Below W.heap.size W W' := by
 obtain ⟨res, hres⟩ : ∃ r, nameS s = r := ⟨_, rfl⟩
 rw [hres]
 have HR : Aside0 ((lettersS 0 (s.toList.drop 0) && (decide (1 ≤ s.size ∧ s.size ≤ 12) && !hasT ownL s)) = res) := ⟨hres⟩
 clear hres
 have hd : ∀ k (h : k < s.size), s.toList.drop k = s[k] :: s.toList.drop (k + 1) := fun k hlt => by
  have h := toList_get s k hlt
  have hl : k < s.toList.length := by rw [toList_length]; exact hlt
  rw [List.drop_eq_getElem_cons hl]
  rw [List.getElem?_eq_getElem hl] at h
  rw [Option.some.inj h]
 have HD := Aside0.mk hd
 clear hd
 by_cases h1 : s.size < 1
 · have d1 : decide (s.size < 1) = true := decide_eq_true h1
   have HRR : Aside0 (res = false) := ⟨by rw [← HR.out, show decide (1 ≤ s.size ∧ s.size ≤ 12) = false from decide_eq_false (by omega)]; simp⟩
   go_enter Tryz.func12, Tryz.ntmps12
   go_wp2
   go_ret
   rw [HRR.out]
   exact ⟨rfl, Below.refl _ _⟩
 have d1 : decide (s.size < 1) = false := decide_eq_false h1
 by_cases h2 : 12 < s.size
 · have d2 : decide (12 < s.size) = true := decide_eq_true h2
   have HRR : Aside0 (res = false) := ⟨by rw [← HR.out, show decide (1 ≤ s.size ∧ s.size ≤ 12) = false from decide_eq_false (by omega)]; simp⟩
   go_enter Tryz.func12, Tryz.ntmps12
   go_wp2
   go_ret
   rw [HRR.out]
   exact ⟨rfl, Below.refl _ _⟩
 have d2 : decide (12 < s.size) = false := decide_eq_false h2
 have h0 : 0 < s.size := by omega
 have hs12 : s.size ≤ 12 := by omega
 have HR2 : Aside0 ((lettersS 0 (s.toList.drop 0) && !hasT ownL s) = res) := ⟨by rw [← HR.out, show decide (1 ≤ s.size ∧ s.size ≤ 12) = true from decide_eq_true (by omega), Bool.true_and]⟩
 clear HR h1 h2
 go_enter Tryz.func12, Tryz.ntmps12
 go_wp2_with fail
 refine (rsmall_any (s[0]).toNat W).mono ?_
 rintro e w1 ⟨rfl, hw⟩
 obtain rfl : W = w1 := hw.symm
 clear hw
 cases hb : between 97 122 (s[0]).toNat
 · have HRR : Aside0 (res = false) := ⟨by
    rw [← HR2.out, HD.out 0 h0, lettersS, letter_at, hb]
    simp⟩
   clear hb
   go_wp2
   go_ret
   rw [HRR.out]
   exact ⟨rfl, Below.refl _ _⟩
 have HSM := Aside0.mk hb
 clear hb
 go_wp2_with fail
 clear d1 d2
 go_loopw [3] (fun i w' => ∃ k : Nat, i = .int .i64 k ∧ k ≤ s.size ∧ Aside0 ((lettersS k (s.toList.drop k) && !hasT ownL s) = res) ∧ w' = W) (fun i _ => s.size - (intOf i).toNat)
 case atStart => exact ⟨0, rfl, Nat.zero_le _, HR2, rfl⟩
 case round =>
  obtain ⟨k, rfl, hkl, HI, hw0⟩ := hrel
  rw [hw0]
  clear hw0
  by_cases hlt : k < s.size
  · have HI2 : Aside0 (((between 97 122 (s[k]).toNat || (decide (0 < k) && between 48 57 (s[k]).toNat)) && (lettersS (k + 1) (s.toList.drop (k + 1)) && !hasT ownL s)) = res) := ⟨by rw [← letter_at, ← Bool.and_assoc, ← HI.out, HD.out k hlt, lettersS]⟩
    have e1 : decide (k < s.size) = true := decide_eq_true hlt
    have HLT := Aside0.mk hlt
    have HS0 : Aside0 (k = 0 → between 97 122 (s[k]).toNat = true) := ⟨fun h => by subst h; exact HSM.out⟩
    go_wp2_with fail
    refine (rsmall_any (s[k]).toNat W).mono ?_
    rintro e w1 ⟨rfl, hw⟩
    obtain rfl : W = w1 := hw.symm
    clear hw
    cases hb : between 97 122 (s[k]).toNat
    · have hk0 : 0 < k := by
       by_cases h : k = 0
       · have := HS0.out h
         rw [hb] at this
         cases this
       · omega
      have HI3 : Aside0 ((between 48 57 (s[k]).toNat && (lettersS (k + 1) (s.toList.drop (k + 1)) && !hasT ownL s)) = res) := ⟨by rw [← HI2.out, hb, decide_eq_true hk0]; simp⟩
      clear hb hk0
      go_wp2_with fail
      refine (rdigit_any (s[k]).toNat W).mono ?_
      rintro e w1 ⟨rfl, hw⟩
      obtain rfl : W = w1 := hw.symm
      clear hw
      cases hb : between 48 57 (s[k]).toNat
      · have HRR : Aside0 (res = false) := ⟨by rw [← HI3.out, hb, Bool.false_and]⟩
        clear hb
        go_wp2
        go_ret
        rw [HRR.out]
        exact ⟨rfl, Below.refl _ _⟩
      · have HI4 : Aside0 ((lettersS (k + 1) (s.toList.drop (k + 1)) && !hasT ownL s) = res) := ⟨by rw [← HI3.out, hb, Bool.true_and]⟩
        clear hb
        go_wp2
        go_roundw
        case rel => exact ⟨k + 1, by go_num, HLT.out, HI4, by first | rfl | trivial⟩
        case measure => have := HLT.out; simp [intOf]; omega
    · have HI4 : Aside0 ((lettersS (k + 1) (s.toList.drop (k + 1)) && !hasT ownL s) = res) := ⟨by rw [← HI2.out, hb, Bool.true_or, Bool.true_and]⟩
      clear hb
      go_wp2
      go_roundw
      case rel => exact ⟨k + 1, by go_num, HLT.out, HI4, by first | rfl | trivial⟩
      case measure => have := HLT.out; simp [intOf]; omega
  · have e1 : decide (k < s.size) = false := decide_eq_false hlt
    have HI2 : Aside0 ((!hasT ownL s) = res) := ⟨by
     rw [← HI.out, List.drop_of_length_le (by rw [toList_length]; omega), lettersS, Bool.true_and]⟩
    have HO := Aside0.mk (own_has s)
    clear hlt HI
    go_upto_region 8 with (fail)
    cases hq0 : (s.toList == [116, 111, 107])
    case true =>
     have HRR : Aside0 (res = false) := ⟨by rw [← HI2.out, HO.out, hq0]; simp⟩
     go_wp2
     go_ret
     rw [HRR.out]
     exact ⟨rfl, Below.refl _ _⟩
    cases hq1 : (s.toList == [114, 117, 108, 101])
    case true =>
     have HRR : Aside0 (res = false) := ⟨by rw [← HI2.out, HO.out, hq0, hq1]; simp⟩
     go_wp2
     go_ret
     rw [HRR.out]
     exact ⟨rfl, Below.refl _ _⟩
    cases hq2 : (s.toList == [105, 110, 116])
    case true =>
     have HRR : Aside0 (res = false) := ⟨by rw [← HI2.out, HO.out, hq0, hq1, hq2]; simp⟩
     go_wp2
     go_ret
     rw [HRR.out]
     exact ⟨rfl, Below.refl _ _⟩
    cases hq3 : (s.toList == [99, 97, 108, 108])
    case true =>
     have HRR : Aside0 (res = false) := ⟨by rw [← HI2.out, HO.out, hq0, hq1, hq2, hq3]; simp⟩
     go_wp2
     go_ret
     rw [HRR.out]
     exact ⟨rfl, Below.refl _ _⟩
    cases hq4 : (s.toList == [114, 101, 116])
    case true =>
     have HRR : Aside0 (res = false) := ⟨by rw [← HI2.out, HO.out, hq0, hq1, hq2, hq3, hq4]; simp⟩
     go_wp2
     go_ret
     rw [HRR.out]
     exact ⟨rfl, Below.refl _ _⟩
    cases hq5 : (s.toList == [102, 114, 101, 101])
    case true =>
     have HRR : Aside0 (res = false) := ⟨by rw [← HI2.out, HO.out, hq0, hq1, hq2, hq3, hq4, hq5]; simp⟩
     go_wp2
     go_ret
     rw [HRR.out]
     exact ⟨rfl, Below.refl _ _⟩
    have HRR : Aside0 (res = true) := ⟨by rw [← HI2.out, HO.out, hq0, hq1, hq2, hq3, hq4, hq5]; rfl⟩
    go_wp2
    go_ret
    rw [HRR.out]
    exact ⟨rfl, Below.refl _ _⟩
end Go.Proofs.YthdfmbmbjpmlaaaGreatDoor.Rn
end
section
namespace Go.Proofs.YthdfmbmbjpmlaaaGreatDoor.Rn
open Go.RowKit Go.Proofs.YthdfmbmbjpmlaaaGreatDoorW.PrintWords Go.Proofs.YthdfmbmbjpmlaaaGreatDoorW.PrintLast Go.Proofs.YthdfmbmbjpmlaaaGreatDoorW.PrintMore
attribute [local go_sem] max2_int min2_int max_two min_two max_three min_three max_four min_four   -- for this text's walks alone
set_option linter.unusedVariables false
set_option linter.unusedSimpArgs false
mutual
def regex_parts.j0 : Nat → Int → Bool → Option (Int)
 | 0, _, _ => none
 | k + 1, x3, x4 => if x4 = true then (some 0) else (if x3 = 3 then (regex_parts.j1 k x3 (x3 == 3)) else (regex_parts.j1 k x3 (x3 == 4)))
def regex_parts.j1 : Nat → Int → Bool → Option (Int)
 | 0, _, _ => none
 | k + 1, x3, x8 => if x8 = true then (some 2) else (if x3 = 5 then (some 1) else (some (-1)))
end
def regex_parts.f (k : Nat) (a0 : Int) : Option (Int) := if a0 = 0 then (regex_parts.j0 k a0 (a0 == 0)) else (if a0 = 1 then (regex_parts.j0 k a0 (a0 == 1)) else (regex_parts.j0 k a0 (a0 == 2)))
theorem regex_parts.mono_l : ∀ k, (∀ y0 y1, LeO (regex_parts.j0 k y0 y1) (regex_parts.j0 (k + 1) y0 y1)) ∧ (∀ y0 y1, LeO (regex_parts.j1 k y0 y1) (regex_parts.j1 (k + 1) y0 y1))
 | 0 => ⟨fun _ _ r h => by simp [regex_parts.j0] at h, fun _ _ r h => by simp [regex_parts.j1] at h⟩
 | k + 1 => by
  obtain ⟨ih0, ih1⟩ := regex_parts.mono_l k
  refine ⟨?_, ?_⟩
  · intro y0 y1
    unfold regex_parts.j0
    repeat' first
    | (with_reducible exact ih0 _ _)
    | (with_reducible exact ih1 _ _)
    | (with_reducible exact LeO.refl _)
    | (with_reducible exact LeO.none _)
    | (with_reducible refine LeO.ite ?_ ?_)
    | (with_reducible refine LeO.bind ?_ (fun _ => ?_))
    | exact ih0 _ _
    | exact ih1 _ _
    | exact LeO.none _
    | refine LeO.ite ?_ ?_
    | refine LeO.bind ?_ (fun _ => ?_)
  · intro y0 y1
    unfold regex_parts.j1
    repeat' first
    | (with_reducible exact ih0 _ _)
    | (with_reducible exact ih1 _ _)
    | (with_reducible exact LeO.refl _)
    | (with_reducible exact LeO.none _)
    | (with_reducible refine LeO.ite ?_ ?_)
    | (with_reducible refine LeO.bind ?_ (fun _ => ?_))
    | exact ih0 _ _
    | exact ih1 _ _
    | exact LeO.none _
    | refine LeO.ite ?_ ?_
    | refine LeO.bind ?_ (fun _ => ?_)
theorem regex_parts.mono : ∀ a0 k, LeO (regex_parts.f k a0) (regex_parts.f (k + 1) a0) := by
 intro a0 k
 obtain ⟨ih0, ih1⟩ := regex_parts.mono_l k
 unfold regex_parts.f
 repeat' first
  | (with_reducible exact ih0 _ _)
  | (with_reducible exact ih1 _ _)
  | (with_reducible exact LeO.refl _)
  | (with_reducible exact LeO.none _)
  | (with_reducible refine LeO.ite ?_ ?_)
  | (with_reducible refine LeO.bind ?_ (fun _ => ?_))
  | exact ih0 _ _
  | exact ih1 _ _
  | exact LeO.none _
  | refine LeO.ite ?_ ?_
  | refine LeO.bind ?_ (fun _ => ?_)
set_option maxHeartbeats 8000000 in
set_option maxRecDepth 100000 in
theorem regex_parts.calls (k : Nat) (a0 : Int) (r : Int) (w : World) (h : regex_parts.f k a0 = some r) :
 Calls Tryz.prog 78 #[.int .i64 a0] w fun e w' => e = .returned (.int .i64 r) ∧ Drawn0 w w' := by
 have H : (if a0 = 0 then (regex_parts.j0 k a0 (a0 == 0)) else (if a0 = 1 then (regex_parts.j0 k a0 (a0 == 1)) else (regex_parts.j0 k a0 (a0 == 2)))) = some r := h
 clear h
 have HC2 := Aside0.mk H
 clear H
 go_enter Tryz.func78, Tryz.ntmps78
 go_upto_if 4 with (fail)
 go_cut [4] (fun v4 wc => ∃ (kq : Nat) (x4_1 : Bool), v4 = .bool x4_1 ∧ Aside0 (regex_parts.j0 kq a0 x4_1 = some r) ∧ Aside0 (kq ≤ k) ∧ Drawn0 w wc)
 case first =>
  have H := HC2.out
  clear HC2
  by_cases c3 : a0 = 0
  · rw [if_pos c3] at H
    have c3b0 : (a0 == 0) = true := beq_iff_eq.mpr c3
    have c3b1 : (a0 != 0) = false := bne_eq_false_iff_eq.mpr c3
    clear c3
    (first | rw [c3b0] | (simp only [i64_w, i32_w]; rw [c3b0]) | skip)
    have H' := Aside0.mk H
    clear H
    go_wp2
    go_meet
    case rel => exact ⟨_, ((a0 == 0)), (by first | rfl | (simp; done) | (simp [*]; done)), H', ⟨by first | omega | exact Nat.le_refl _⟩, by repeat (first | exact Drawn0.refl _ | apply Drawn0.step)⟩
  · rw [if_neg c3] at H
    have c3b0 : (a0 == 0) = false := beq_eq_false_iff_ne.mpr c3
    have c3b1 : (a0 != 0) = true := bne_iff_ne.mpr c3
    (first | rw [c3b0] | (simp only [i64_w, i32_w]; rw [c3b0]) | skip)
    by_cases c4 : a0 = 1
    · rw [if_pos c4] at H
      have c4b0 : (a0 == 1) = true := beq_iff_eq.mpr c4
      have c4b1 : (a0 != 1) = false := bne_eq_false_iff_eq.mpr c4
      clear c4
      have H' := Aside0.mk H
      clear H
      go_wp2
      go_meet
      case rel => exact ⟨_, ((a0 == 1)), (by first | rfl | (simp; done) | (simp [*]; done)), H', ⟨by first | omega | exact Nat.le_refl _⟩, by repeat (first | exact Drawn0.refl _ | apply Drawn0.step)⟩
    · rw [if_neg c4] at H
      have c4b0 : (a0 == 1) = false := beq_eq_false_iff_ne.mpr c4
      have c4b1 : (a0 != 1) = true := bne_iff_ne.mpr c4
      have H' := Aside0.mk H
      clear H
      go_wp2
      go_meet
      case rel => exact ⟨_, ((a0 == 2)), (by first | rfl | (simp; done) | (simp [*]; done)), H', ⟨by first | omega | exact Nat.le_refl _⟩, by repeat (first | exact Drawn0.refl _ | apply Drawn0.step)⟩
 case rest =>
  clear HC2
  obtain ⟨kq, x4_1, rfl, HA, HJ1, ⟨mc1, rfl⟩⟩ := hcut
  cases kq with
  | zero => exact absurd HA.out (by simp [regex_parts.j0])
  | succ kj1 =>
   have H := HA.out
   clear HA
   simp only [regex_parts.j0] at H
   by_cases c5 : x4_1 = true
   · subst c5
     have H1 : (some 0) = some r := by rw [if_pos rfl] at H; exact H
     clear H
     have H := H1
     clear H1
     obtain rfl := Option.some.inj H
     go_wp2
     go_ret
     exact ⟨by first | rfl | (simp; done) | (simp [*]; done), by repeat (first | exact Drawn0.refl _ | apply Drawn0.step)⟩
   · replace c5 := Bool.eq_false_iff.mpr c5
     subst c5
     have H1 : (if a0 = 3 then (regex_parts.j1 kj1 a0 (a0 == 3)) else (regex_parts.j1 kj1 a0 (a0 == 4))) = some r := by rw [if_neg (show ¬ (false = true) by decide)] at H; exact H
     clear H
     have H := H1
     clear H1
     have HC6 := Aside0.mk H
     clear H
     go_upto_if 8 with (fail)
     go_cut [8] (fun v8 wc => ∃ (kq : Nat) (x8_5 : Bool), v8 = .bool x8_5 ∧ Aside0 (regex_parts.j1 kq a0 x8_5 = some r) ∧ Aside0 (kq ≤ kj1) ∧ Drawn0 w wc)
     case first =>
      have H := HC6.out
      clear HC6
      by_cases c7 : a0 = 3
      · rw [if_pos c7] at H
        have c7b0 : (a0 == 3) = true := beq_iff_eq.mpr c7
        have c7b1 : (a0 != 3) = false := bne_eq_false_iff_eq.mpr c7
        clear c7
        (first | rw [c7b0] | (simp only [i64_w, i32_w]; rw [c7b0]) | skip)
        have H' := Aside0.mk H
        clear H
        go_wp2
        go_meet
        case rel => exact ⟨_, ((a0 == 3)), (by first | rfl | (simp; done) | (simp [*]; done)), H', ⟨by have := HJ1.out; first | omega | exact Nat.le_refl _⟩, by repeat (first | exact Drawn0.refl _ | apply Drawn0.step)⟩
      · rw [if_neg c7] at H
        have c7b0 : (a0 == 3) = false := beq_eq_false_iff_ne.mpr c7
        have c7b1 : (a0 != 3) = true := bne_iff_ne.mpr c7
        (first | rw [c7b0] | (simp only [i64_w, i32_w]; rw [c7b0]) | skip)
        have H' := Aside0.mk H
        clear H
        go_wp2
        go_meet
        case rel => exact ⟨_, ((a0 == 4)), (by first | rfl | (simp; done) | (simp [*]; done)), H', ⟨by have := HJ1.out; first | omega | exact Nat.le_refl _⟩, by repeat (first | exact Drawn0.refl _ | apply Drawn0.step)⟩
     case rest =>
      clear HC6
      try clear c5
      obtain ⟨kq, x8_5, rfl, HA, HJ5, ⟨mc5, rfl⟩⟩ := hcut
      cases kq with
      | zero => exact absurd HA.out (by simp [regex_parts.j1])
      | succ kj5 =>
       have H := HA.out
       clear HA
       simp only [regex_parts.j1] at H
       by_cases c8 : x8_5 = true
       · subst c8
         have H1 : (some 2) = some r := by rw [if_pos rfl] at H; exact H
         clear H
         have H := H1
         clear H1
         obtain rfl := Option.some.inj H
         go_wp2
         go_ret
         exact ⟨by first | rfl | (simp; done) | (simp [*]; done), by repeat (first | exact Drawn0.refl _ | apply Drawn0.step)⟩
       · replace c8 := Bool.eq_false_iff.mpr c8
         subst c8
         have H1 : (if a0 = 5 then (some 1) else (some (-1))) = some r := by rw [if_neg (show ¬ (false = true) by decide)] at H; exact H
         clear H
         have H := H1
         clear H1
         by_cases c9 : a0 = 5
         · rw [if_pos c9] at H
           have c9b0 : (a0 == 5) = true := beq_iff_eq.mpr c9
           have c9b1 : (a0 != 5) = false := bne_eq_false_iff_eq.mpr c9
           clear c9
           obtain rfl := Option.some.inj H
           go_wp2
           go_ret
           exact ⟨by first | rfl | (simp; done) | (simp [*]; done), by repeat (first | exact Drawn0.refl _ | apply Drawn0.step)⟩
         · rw [if_neg c9] at H
           have c9b0 : (a0 == 5) = false := beq_eq_false_iff_ne.mpr c9
           have c9b1 : (a0 != 5) = true := bne_iff_ne.mpr c9
           obtain rfl := Option.some.inj H
           go_wp2
           go_ret
           exact ⟨by first | rfl | (simp; done) | (simp [*]; done), by repeat (first | exact Drawn0.refl _ | apply Drawn0.step)⟩
mutual
def regex_empty.j0 : Nat → Int → Bool → Int → List (S80) → List (S38) → Option (Bool)
 | 0, _, _, _, _, _ => none
 | k + 1, x4, x5, x497000, x497001, x497002 => if x5 = true then (some true) else (if x4 = 3 then (if 0 < (x497002.length : Int) then ((regex_empty.f k ((rd_T38 x497002 0).f0) ((rd_T38 x497002 0).f1) ((rd_T38 x497002 0).f2)).bind fun t498 => (if t498 = true then (if 1 < (x497002.length : Int) then ((regex_empty.f k ((rd_T38 x497002 1).f0) ((rd_T38 x497002 1).f1) ((rd_T38 x497002 1).f2)).bind fun t500 => (some t500)) else (none)) else (some false))) else (none)) else (if x4 = 4 then (if 0 < (x497002.length : Int) then ((regex_empty.f k ((rd_T38 x497002 0).f0) ((rd_T38 x497002 0).f1) ((rd_T38 x497002 0).f2)).bind fun t502 => (if t502 = true then (some true) else (if 1 < (x497002.length : Int) then ((regex_empty.f k ((rd_T38 x497002 1).f0) ((rd_T38 x497002 1).f1) ((rd_T38 x497002 1).f2)).bind fun t504 => (some t504)) else (none)))) else (none)) else (some false)))
def regex_empty.f : Nat → Int → List (S80) → List (S38) → Option (Bool)
 | 0, _, _, _ => none
 | k + 1, a0_0, l0_1, l0_2 => if a0_0 = 1 then (regex_empty.j0 k a0_0 (a0_0 == 1) a0_0 l0_1 l0_2) else (regex_empty.j0 k a0_0 (a0_0 == 5) a0_0 l0_1 l0_2)
end
theorem regex_empty.mono_l : ∀ k, (∀ y0 y1 y2, LeO (regex_empty.f k y0 y1 y2) (regex_empty.f (k + 1) y0 y1 y2)) ∧ (∀ y0 y1 y2 y3 y4, LeO (regex_empty.j0 k y0 y1 y2 y3 y4) (regex_empty.j0 (k + 1) y0 y1 y2 y3 y4))
 | 0 => ⟨fun _ _ _ r h => by simp [regex_empty.f] at h, fun _ _ _ _ _ r h => by simp [regex_empty.j0] at h⟩
 | k + 1 => by
  obtain ⟨ih0, ih1⟩ := regex_empty.mono_l k
  refine ⟨?_, ?_⟩
  · intro y0 y1 y2
    unfold regex_empty.f
    repeat' first
    | (with_reducible exact ih0 _ _ _)
    | (with_reducible exact ih1 _ _ _ _ _)
    | (with_reducible exact LeO.refl _)
    | (with_reducible exact LeO.none _)
    | (with_reducible refine LeO.ite ?_ ?_)
    | (with_reducible refine LeO.bind ?_ (fun _ => ?_))
    | exact ih0 _ _ _
    | exact ih1 _ _ _ _ _
    | exact LeO.none _
    | refine LeO.ite ?_ ?_
    | refine LeO.bind ?_ (fun _ => ?_)
  · intro y0 y1 y2 y3 y4
    unfold regex_empty.j0
    repeat' first
    | (with_reducible exact ih0 _ _ _)
    | (with_reducible exact ih1 _ _ _ _ _)
    | (with_reducible exact LeO.refl _)
    | (with_reducible exact LeO.none _)
    | (with_reducible refine LeO.ite ?_ ?_)
    | (with_reducible refine LeO.bind ?_ (fun _ => ?_))
    | exact ih0 _ _ _
    | exact ih1 _ _ _ _ _
    | exact LeO.none _
    | refine LeO.ite ?_ ?_
    | refine LeO.bind ?_ (fun _ => ?_)
theorem regex_empty.mono : ∀ a0 a1 a2 k, LeO (regex_empty.f k a0 a1 a2) (regex_empty.f (k + 1) a0 a1 a2) := by
 intro a0 a1 a2 k
 obtain ⟨ih0, ih1⟩ := regex_empty.mono_l k
 exact ih0 a0 a1 a2
set_option maxHeartbeats 8000000 in
set_option maxRecDepth 100000 in
theorem regex_empty.calls (k : Nat) : ∀ (a0_0 : Int) (A0_1 : Option Addr) (c0_1 : Nat) (l0_1 : List (S80)) (A0_2 : Option Addr) (c0_2 : Nat) (l0_2 : List (S38)) (r : Bool) (w : World) (hr0_1 : Kd.C k80 w A0_1 l0_1.length l0_1) (hc0_1 : l0_1.length ≤ c0_1) (hr0_2 : Kd.C k38 w A0_2 l0_2.length l0_2) (hc0_2 : l0_2.length ≤ c0_2) (h : regex_empty.f k a0_0 l0_1 l0_2 = some r),
 Calls Tryz.prog 69 #[.agg #[.int .i64 a0_0, .slice A0_1 l0_1.length c0_1, .slice A0_2 l0_2.length c0_2]] w fun e w' => e = .returned (.bool r) ∧ Below w.heap.size w w' := by
 induction k using Nat.strongRecOn with
 | _ k ih =>
 intro a0_0 A0_1 c0_1 l0_1 A0_2 c0_2 l0_2 r w hr0_1 hc0_1 hr0_2 hc0_2 h
 cases k with
 | zero => exact absurd h (by simp [regex_empty.f])
 | succ k =>
 simp only [regex_empty.f] at h
 have hu38 := Tryz.underlying38
 have HR0_1 := Aside0.mk hr0_1
 have HC0_1 := Aside0.mk hc0_1
 clear hr0_1 hc0_1
 have HR0_2 := Aside0.mk hr0_2
 have HC0_2 := Aside0.mk hc0_2
 clear hr0_2 hc0_2
 have HB := Aside0.mk (Below.refl w.heap.size w)
 have H : (if a0_0 = 1 then (regex_empty.j0 k a0_0 (a0_0 == 1) a0_0 l0_1 l0_2) else (regex_empty.j0 k a0_0 (a0_0 == 5) a0_0 l0_1 l0_2)) = some r := h
 clear h
 have HC2 := Aside0.mk H
 clear H
 go_enter Tryz.func69, Tryz.ntmps69
 go_upto_if 5 with (first | ((with_reducible refine gate_dst (N := 1) rfl ?_); refine box_event ?hg (N := 1) ?hd (cs := #[.int .i64 a0_0, .slice A0_1 l0_1.length c0_1, .slice A0_2 l0_2.length c0_2]) (t := 38) ?hr ?_; (case hd => rfl); (case hg => rfl); (case hr => first | (go_simp; done) | (go_simp; rfl)); intro gb496 hg w3 hbox hb; have n0_ := Aside0.mk (below_step (by repeat (first | (with_reducible first | exact HB.out | apply below_alloc | apply pw_below_drewN | apply below_drew1) | exact HB.out)) hb); have n1_ := Aside0.mk (hbox); have n2_ := Aside0.mk ((by rw [hg]; exact (below_size (by repeat (first | (with_reducible first | exact HB.out | apply below_alloc | apply pw_below_drewN | apply below_drew1) | exact HB.out))) : w.heap.size ≤ gb496)); have n3_ := Aside0.mk ((by rw [hg]; exact (below_size (by repeat (first | (with_reducible first | exact HB.out | apply below_alloc | apply pw_below_drewN | apply below_drew1) | exact HB.out))) : w.heap.size ≤ gb496)); clear HB; have HB := n0_; have BK496 := n1_; have GW496 := n2_; have GE496 := n3_; clear n0_ n1_ n2_ n3_; clear hb hbox hg; have hcz4_0 : w3.cell? ⟨gb496, 0, none⟩ = some (.int .i64 a0_0) := (blk_cell BK496.out 0).trans rfl; have hcz4_1 : w3.cell? ⟨gb496, 1, none⟩ = some (.slice A0_1 l0_1.length c0_1) := (blk_cell BK496.out 1).trans rfl; have hcz4_2 : w3.cell? ⟨gb496, 2, none⟩ = some (.slice A0_2 l0_2.length c0_2) := (blk_cell BK496.out 2).trans rfl; have hfz4_0 := blk_frozen BK496.out 0; have hfz4_1 := blk_frozen BK496.out 1; have hfz4_2 := blk_frozen BK496.out 2))
 (try simp only [Act.put, List.setIfInBounds_toArray, List.set_cons_zero, List.set_cons_succ])
 go_cut [5] (fun v5 wc => ∃ (kq : Nat) (x5_1 : Bool), v5 = .bool x5_1 ∧ Aside0 (regex_empty.j0 kq a0_0 x5_1 a0_0 l0_1 l0_2 = some r) ∧ Aside0 (kq ≤ k) ∧ Aside0 (wc.heap[gb496]? = some (.cells #[.int .i64 a0_0, (.slice A0_1 l0_1.length c0_1), (.slice A0_2 l0_2.length c0_2)] 38 (0, 0))) ∧ Aside0 (Below w.heap.size w wc))
 case first =>
  have H := HC2.out
  clear HC2
  by_cases c5 : a0_0 = 1
  · rw [if_pos c5] at H
    have c5b0 : (a0_0 == 1) = true := beq_iff_eq.mpr c5
    have c5b1 : (a0_0 != 1) = false := bne_eq_false_iff_eq.mpr c5
    clear c5
    (first | rw [c5b0] | (simp only [i64_w, i32_w]; rw [c5b0]) | skip)
    have H' := Aside0.mk H
    clear H
    go_wp2
    go_meet
    case rel => exact ⟨_, ((a0_0 == 1)), (by first | rfl | (simp; done) | (simp [*]; done)), H', ⟨by first | omega | exact Nat.le_refl _⟩, ⟨by (with_reducible repeat (first | refine blk_drewN ?_ _ | refine blk_drew ?_ | refine blk_alloc ?_ _)); exact BK496.out⟩, ⟨by repeat (first | (with_reducible first | exact HB.out | apply below_alloc | apply pw_below_drewN | apply below_drew1 | refine below_set ?_ GE496.out) | exact HB.out)⟩⟩
  · rw [if_neg c5] at H
    have c5b0 : (a0_0 == 1) = false := beq_eq_false_iff_ne.mpr c5
    have c5b1 : (a0_0 != 1) = true := bne_iff_ne.mpr c5
    (first | rw [c5b0] | (simp only [i64_w, i32_w]; rw [c5b0]) | skip)
    have H' := Aside0.mk H
    clear H
    go_wp2
    go_meet
    case rel => exact ⟨_, ((a0_0 == 5)), (by first | rfl | (simp; done) | (simp [*]; done)), H', ⟨by first | omega | exact Nat.le_refl _⟩, ⟨by (with_reducible repeat (first | refine blk_drewN ?_ _ | refine blk_drew ?_ | refine blk_alloc ?_ _)); exact BK496.out⟩, ⟨by repeat (first | (with_reducible first | exact HB.out | apply below_alloc | apply pw_below_drewN | apply below_drew1 | refine below_set ?_ GE496.out) | exact HB.out)⟩⟩
 case rest =>
  clear HC2
  try clear hcz4_0
  try clear hcz4_1
  try clear hcz4_2
  try clear hfz4_0
  try clear hfz4_1
  try clear hfz4_2
  obtain ⟨kq, x5_1, rfl, HA, HJ1, BK496, HB⟩ := hcut
  cases kq with
  | zero => exact absurd HA.out (by simp [regex_empty.j0])
  | succ kj1 =>
   have H := HA.out
   clear HA
   simp only [regex_empty.j0] at H
   by_cases c6 : x5_1 = true
   · subst c6
     have H1 : (some true) = some r := by rw [if_pos rfl] at H; exact H
     clear H
     have H := H1
     clear H1
     obtain rfl := Option.some.inj H
     go_wp2
     go_ret
     exact ⟨by first | rfl | (simp [errW_none, errW_some] <;> rfl) | (simp [*, errW_none, errW_some] <;> rfl), by repeat (first | (with_reducible first | exact HB.out | apply below_alloc | apply pw_below_drewN | apply below_drew1 | refine below_set ?_ GE496.out) | exact HB.out)⟩
   · replace c6 := Bool.eq_false_iff.mpr c6
     subst c6
     have H1 : (if a0_0 = 3 then (if 0 < (l0_2.length : Int) then ((regex_empty.f kj1 ((rd_T38 l0_2 0).f0) ((rd_T38 l0_2 0).f1) ((rd_T38 l0_2 0).f2)).bind fun t498 => (if t498 = true then (if 1 < (l0_2.length : Int) then ((regex_empty.f kj1 ((rd_T38 l0_2 1).f0) ((rd_T38 l0_2 1).f1) ((rd_T38 l0_2 1).f2)).bind fun t500 => (some t500)) else (none)) else (some false))) else (none)) else (if a0_0 = 4 then (if 0 < (l0_2.length : Int) then ((regex_empty.f kj1 ((rd_T38 l0_2 0).f0) ((rd_T38 l0_2 0).f1) ((rd_T38 l0_2 0).f2)).bind fun t502 => (if t502 = true then (some true) else (if 1 < (l0_2.length : Int) then ((regex_empty.f kj1 ((rd_T38 l0_2 1).f0) ((rd_T38 l0_2 1).f1) ((rd_T38 l0_2 1).f2)).bind fun t504 => (some t504)) else (none)))) else (none)) else (some false))) = some r := by rw [if_neg (show ¬ (false = true) by decide)] at H; exact H
     clear H
     have H := H1
     clear H1
     by_cases c7 : a0_0 = 3
     · rw [if_pos c7] at H
       have c7b0 : (a0_0 == 3) = true := beq_iff_eq.mpr c7
       have c7b1 : (a0_0 != 3) = false := bne_eq_false_iff_eq.mpr c7
       clear c7
       by_cases c8 : 0 < (l0_2.length : Int)
       · rw [if_pos c8] at H
         have c8b0 : decide (0 < (l0_2.length : Int)) = true := decide_eq_true c8
         have c8b1 : decide (0 < l0_2.length) = true := decide_eq_true (by omega)
         clear c8
         replace H := Option.bind_eq_some_iff.mp H
         obtain ⟨t498, A90, H⟩ := H
         replace H : (if t498 = true then (if 1 < (l0_2.length : Int) then ((regex_empty.f kj1 ((rd_T38 l0_2 1).f0) ((rd_T38 l0_2 1).f1) ((rd_T38 l0_2 1).f2)).bind fun t500 => (some t500)) else (none)) else (some false)) = some r := H
         have A9 := Aside0.mk A90
         clear A90
         by_cases c10 : t498 = true
         · subst c10
           have H1 : (if 1 < (l0_2.length : Int) then ((regex_empty.f kj1 ((rd_T38 l0_2 1).f0) ((rd_T38 l0_2 1).f1) ((rd_T38 l0_2 1).f2)).bind fun t500 => (some t500)) else (none)) = some r := by rw [if_pos rfl] at H; exact H
           clear H
           have H := H1
           clear H1
           by_cases c11 : 1 < (l0_2.length : Int)
           · rw [if_pos c11] at H
             have c11b0 : decide (1 < (l0_2.length : Int)) = true := decide_eq_true c11
             have c11b1 : decide (1 < l0_2.length) = true := decide_eq_true (by omega)
             clear c11
             replace H := Option.bind_eq_some_iff.mp H
             obtain ⟨t500, A120, H⟩ := H
             replace H : (some t500) = some r := H
             have A12 := Aside0.mk A120
             clear A120
             obtain rfl := Option.some.inj H
             have hcz13_0 : wc.cell? ⟨gb496, 0, none⟩ = some (.int .i64 a0_0) := (blk_cell BK496.out 0).trans rfl
             have hcz13_1 : wc.cell? ⟨gb496, 1, none⟩ = some (.slice A0_1 l0_1.length c0_1) := (blk_cell BK496.out 1).trans rfl
             have hcz13_2 : wc.cell? ⟨gb496, 2, none⟩ = some (.slice A0_2 l0_2.length c0_2) := (blk_cell BK496.out 2).trans rfl
             have hfz13_0 := blk_frozen BK496.out 0
             have hfz13_1 := blk_frozen BK496.out 1
             have hfz13_2 := blk_frozen BK496.out 2
             have p497 : 0 ≤ (0 : Int) := (by omega)
             have q497 : 0 < (l0_2.length : Int) := of_decide_eq_true (by first | (with_reducible assumption) | assumption)
             obtain ⟨ad497, A497_1, c497_1, A497_2, c497_2, e497, hx497_0, hx497_1, hx497_2, hl497_1, hi497_1, hl497_2, hi497_2⟩ := at_T38 HR0_2.out 0 p497 q497
             cases e497
             have qi497 : (0 < l0_2.length) = True := eq_true (by omega)
             (try rw [show ((0 : Int)).toNat = 0 from rfl] at hx497_0)
             (try rw [show 0 * 3 = 0 from rfl] at hx497_0)
             (try rw [Addr.add_zero'] at hx497_0)
             (try rw [show ((0 : Int)).toNat = 0 from rfl] at hx497_1)
             (try rw [show 0 * 3 = 0 from rfl] at hx497_1)
             (try rw [Addr.add_zero'] at hx497_1)
             (try rw [show ((0 : Int)).toNat = 0 from rfl] at hx497_2)
             (try rw [show 0 * 3 = 0 from rfl] at hx497_2)
             (try rw [Addr.add_zero'] at hx497_2)
             replace hx497_0 := (HB.out.cell (World.block_lt_of_cell? w _ hx497_0)).trans hx497_0
             replace hx497_1 := (HB.out.cell (World.block_lt_of_cell? w _ hx497_1)).trans hx497_1
             replace hx497_2 := (HB.out.cell (World.block_lt_of_cell? w _ hx497_2)).trans hx497_2
             have HR497_1 := Aside0.mk hi497_1
             have HC497_1 := Aside0.mk hl497_1
             clear hi497_1 hl497_1
             have HR497_2 := Aside0.mk hi497_2
             have HC497_2 := Aside0.mk hl497_2
             clear hi497_2 hl497_2
             replace p497 := eq_true p497
             replace q497 := eq_true q497
             go_wp2_with (first | ((with_reducible refine gate_callee (f := 69) rfl ?_); refine goesL_ (some 14) rfl rfl Tryz.func69 (by kernel_rfl) rfl #[.agg #[.int .i64 ((rd_T38 l0_2 0).f0), .slice A497_1 ((rd_T38 l0_2 0).f1).length c497_1, .slice A497_2 ((rd_T38 l0_2 0).f2).length c497_2]] rfl (by (try simp only [List.map_toArray, List.map_cons, List.map_nil]); first | done | rfl | (simp only [List.length_drop, List.length_take]; rfl)) ?_; (with_reducible refine (ih kj1 (by have := HJ1.out; omega) ((rd_T38 l0_2 0).f0) _ _ ((rd_T38 l0_2 0).f1) _ _ ((rd_T38 l0_2 0).f2) true _ ?side1 ?side2 ?side3 ?side4 A9.out).mono ?_); (case side1 => repeat (first | exact (Kd.C_below HR497_1.out HB.out) | (with_reducible refine Kd.C_alloc ?_ _) | (with_reducible refine Kd.C_drewN ?_ _) | (with_reducible refine Kd.C_drew ?_))); (case side2 => exact HC497_1.out); (case side3 => repeat (first | exact (Kd.C_below HR497_2.out HB.out) | (with_reducible refine Kd.C_alloc ?_ _) | (with_reducible refine Kd.C_drewN ?_ _) | (with_reducible refine Kd.C_drew ?_))); (case side4 => exact HC497_2.out); rintro e w14 ⟨rfl, hb⟩; refine ⟨_, rfl, ?_⟩; have n0_ := Aside0.mk (blk_below (g := gb496) (o := .cells #[.int .i64 a0_0, .slice A0_1 l0_1.length c0_1, .slice (some ad497) l0_2.length c0_2] 38 (0, 0)) (by (with_reducible repeat (first | refine blk_drewN ?_ _ | refine blk_drew ?_ | refine blk_alloc ?_ _)); exact BK496.out) hb); have n1_ := Aside0.mk (below_step (by repeat (first | (with_reducible first | exact HB.out | apply below_alloc | apply pw_below_drewN | apply below_drew1 | refine below_set ?_ GE496.out) | exact HB.out)) hb); clear BK496; clear HB; have BK496 := n0_; have HB := n1_; clear n0_ n1_; (try clear hb); (try clear hb2); (try clear hk); (try clear hi); have hcz15_0 : w14.cell? ⟨gb496, 0, none⟩ = some (.int .i64 a0_0) := (blk_cell BK496.out 0).trans rfl; have hcz15_1 : w14.cell? ⟨gb496, 1, none⟩ = some (.slice A0_1 l0_1.length c0_1) := (blk_cell BK496.out 1).trans rfl; have hcz15_2 : w14.cell? ⟨gb496, 2, none⟩ = some (.slice (some ad497) l0_2.length c0_2) := (blk_cell BK496.out 2).trans rfl; have hfz15_0 := blk_frozen BK496.out 0; have hfz15_1 := blk_frozen BK496.out 1; have hfz15_2 := blk_frozen BK496.out 2; have p499 : 0 ≤ (1 : Int) := (by omega); have q499 : 1 < (l0_2.length : Int) := of_decide_eq_true (by first | (with_reducible assumption) | assumption); obtain ⟨ad499, A499_1, c499_1, A499_2, c499_2, e499, hx499_0, hx499_1, hx499_2, hl499_1, hi499_1, hl499_2, hi499_2⟩ := at_T38 HR0_2.out 1 p499 q499; obtain rfl : ad497 = ad499 := (by injection e499); (try simp only [show (1 : Int).toNat = 1 from rfl, Nat.reduceMul, Nat.reduceEqDiff, Go.Addr.add, ↓reduceIte] at hx499_0); (try simp only [show (1 : Int).toNat = 1 from rfl, Nat.reduceMul, Nat.reduceEqDiff, Go.Addr.add, ↓reduceIte] at hx499_1); (try simp only [show (1 : Int).toNat = 1 from rfl, Nat.reduceMul, Nat.reduceEqDiff, Go.Addr.add, ↓reduceIte] at hx499_2); have qi499 : (1 < l0_2.length) = True := eq_true (by omega); (try rw [show ((1 : Int)).toNat = 1 from rfl] at hx499_0); (try rw [show 1 * 3 = 3 from rfl] at hx499_0); (try rw [show ((1 : Int)).toNat = 1 from rfl] at hx499_1); (try rw [show 1 * 3 = 3 from rfl] at hx499_1); (try rw [show ((1 : Int)).toNat = 1 from rfl] at hx499_2); (try rw [show 1 * 3 = 3 from rfl] at hx499_2); replace hx499_0 := (HB.out.cell (World.block_lt_of_cell? w _ hx499_0)).trans hx499_0; replace hx499_1 := (HB.out.cell (World.block_lt_of_cell? w _ hx499_1)).trans hx499_1; replace hx499_2 := (HB.out.cell (World.block_lt_of_cell? w _ hx499_2)).trans hx499_2; have HR499_1 := Aside0.mk hi499_1; have HC499_1 := Aside0.mk hl499_1; clear hi499_1 hl499_1; have HR499_2 := Aside0.mk hi499_2; have HC499_2 := Aside0.mk hl499_2; clear hi499_2 hl499_2; replace p499 := eq_true p499; replace q499 := eq_true q499) | (go_at_call 69; (with_reducible refine (ih kj1 (by have := HJ1.out; omega) ((rd_T38 l0_2 1).f0) _ _ ((rd_T38 l0_2 1).f1) _ _ ((rd_T38 l0_2 1).f2) t500 _ ?side1 ?side2 ?side3 ?side4 A12.out).mono ?_); (case side1 => repeat (first | exact (Kd.C_below HR499_1.out HB.out) | (with_reducible refine Kd.C_alloc ?_ _) | (with_reducible refine Kd.C_drewN ?_ _) | (with_reducible refine Kd.C_drew ?_))); (case side2 => exact HC499_1.out); (case side3 => repeat (first | exact (Kd.C_below HR499_2.out HB.out) | (with_reducible refine Kd.C_alloc ?_ _) | (with_reducible refine Kd.C_drewN ?_ _) | (with_reducible refine Kd.C_drew ?_))); (case side4 => exact HC499_2.out); rintro e w16 ⟨rfl, hb⟩; have n0_ := Aside0.mk (blk_below (g := gb496) (o := .cells #[.int .i64 a0_0, .slice A0_1 l0_1.length c0_1, .slice (some ad497) l0_2.length c0_2] 38 (0, 0)) (by (with_reducible repeat (first | refine blk_drewN ?_ _ | refine blk_drew ?_ | refine blk_alloc ?_ _)); exact BK496.out) hb); have n1_ := Aside0.mk (below_step (by repeat (first | (with_reducible first | exact HB.out | apply below_alloc | apply pw_below_drewN | apply below_drew1 | refine below_set ?_ GE496.out) | exact HB.out)) hb); clear BK496; clear HB; have BK496 := n0_; have HB := n1_; clear n0_ n1_; (try clear hb); (try clear hb2); (try clear hk); (try clear hi)))
             go_ret
             exact ⟨by first | rfl | (simp [errW_none, errW_some] <;> rfl) | (simp [*, errW_none, errW_some] <;> rfl), by repeat (first | (with_reducible first | exact HB.out | apply below_alloc | apply pw_below_drewN | apply below_drew1 | refine below_set ?_ GE496.out) | exact HB.out)⟩
           · rw [if_neg c11] at H
             exact absurd H (by simp)
         · replace c10 := Bool.eq_false_iff.mpr c10
           subst c10
           have H1 : (some false) = some r := by rw [if_neg (show ¬ (false = true) by decide)] at H; exact H
           clear H
           have H := H1
           clear H1
           obtain rfl := Option.some.inj H
           have hcz17_0 : wc.cell? ⟨gb496, 0, none⟩ = some (.int .i64 a0_0) := (blk_cell BK496.out 0).trans rfl
           have hcz17_1 : wc.cell? ⟨gb496, 1, none⟩ = some (.slice A0_1 l0_1.length c0_1) := (blk_cell BK496.out 1).trans rfl
           have hcz17_2 : wc.cell? ⟨gb496, 2, none⟩ = some (.slice A0_2 l0_2.length c0_2) := (blk_cell BK496.out 2).trans rfl
           have hfz17_0 := blk_frozen BK496.out 0
           have hfz17_1 := blk_frozen BK496.out 1
           have hfz17_2 := blk_frozen BK496.out 2
           have p497 : 0 ≤ (0 : Int) := (by omega)
           have q497 : 0 < (l0_2.length : Int) := of_decide_eq_true (by first | (with_reducible assumption) | assumption)
           obtain ⟨ad497, A497_1, c497_1, A497_2, c497_2, e497, hx497_0, hx497_1, hx497_2, hl497_1, hi497_1, hl497_2, hi497_2⟩ := at_T38 HR0_2.out 0 p497 q497
           cases e497
           have qi497 : (0 < l0_2.length) = True := eq_true (by omega)
           (try rw [show ((0 : Int)).toNat = 0 from rfl] at hx497_0)
           (try rw [show 0 * 3 = 0 from rfl] at hx497_0)
           (try rw [Addr.add_zero'] at hx497_0)
           (try rw [show ((0 : Int)).toNat = 0 from rfl] at hx497_1)
           (try rw [show 0 * 3 = 0 from rfl] at hx497_1)
           (try rw [Addr.add_zero'] at hx497_1)
           (try rw [show ((0 : Int)).toNat = 0 from rfl] at hx497_2)
           (try rw [show 0 * 3 = 0 from rfl] at hx497_2)
           (try rw [Addr.add_zero'] at hx497_2)
           replace hx497_0 := (HB.out.cell (World.block_lt_of_cell? w _ hx497_0)).trans hx497_0
           replace hx497_1 := (HB.out.cell (World.block_lt_of_cell? w _ hx497_1)).trans hx497_1
           replace hx497_2 := (HB.out.cell (World.block_lt_of_cell? w _ hx497_2)).trans hx497_2
           have HR497_1 := Aside0.mk hi497_1
           have HC497_1 := Aside0.mk hl497_1
           clear hi497_1 hl497_1
           have HR497_2 := Aside0.mk hi497_2
           have HC497_2 := Aside0.mk hl497_2
           clear hi497_2 hl497_2
           replace p497 := eq_true p497
           replace q497 := eq_true q497
           go_wp2_with (first | ((with_reducible refine gate_callee (f := 69) rfl ?_); refine goesL_ (some 14) rfl rfl Tryz.func69 (by kernel_rfl) rfl #[.agg #[.int .i64 ((rd_T38 l0_2 0).f0), .slice A497_1 ((rd_T38 l0_2 0).f1).length c497_1, .slice A497_2 ((rd_T38 l0_2 0).f2).length c497_2]] rfl (by (try simp only [List.map_toArray, List.map_cons, List.map_nil]); first | done | rfl | (simp only [List.length_drop, List.length_take]; rfl)) ?_; (with_reducible refine (ih kj1 (by have := HJ1.out; omega) ((rd_T38 l0_2 0).f0) _ _ ((rd_T38 l0_2 0).f1) _ _ ((rd_T38 l0_2 0).f2) false _ ?side1 ?side2 ?side3 ?side4 A9.out).mono ?_); (case side1 => repeat (first | exact (Kd.C_below HR497_1.out HB.out) | (with_reducible refine Kd.C_alloc ?_ _) | (with_reducible refine Kd.C_drewN ?_ _) | (with_reducible refine Kd.C_drew ?_))); (case side2 => exact HC497_1.out); (case side3 => repeat (first | exact (Kd.C_below HR497_2.out HB.out) | (with_reducible refine Kd.C_alloc ?_ _) | (with_reducible refine Kd.C_drewN ?_ _) | (with_reducible refine Kd.C_drew ?_))); (case side4 => exact HC497_2.out); rintro e w18 ⟨rfl, hb⟩; refine ⟨_, rfl, ?_⟩; have n0_ := Aside0.mk (blk_below (g := gb496) (o := .cells #[.int .i64 a0_0, .slice A0_1 l0_1.length c0_1, .slice (some ad497) l0_2.length c0_2] 38 (0, 0)) (by (with_reducible repeat (first | refine blk_drewN ?_ _ | refine blk_drew ?_ | refine blk_alloc ?_ _)); exact BK496.out) hb); have n1_ := Aside0.mk (below_step (by repeat (first | (with_reducible first | exact HB.out | apply below_alloc | apply pw_below_drewN | apply below_drew1 | refine below_set ?_ GE496.out) | exact HB.out)) hb); clear BK496; clear HB; have BK496 := n0_; have HB := n1_; clear n0_ n1_; (try clear hb); (try clear hb2); (try clear hk); (try clear hi)))
           go_ret
           exact ⟨by first | rfl | (simp [errW_none, errW_some] <;> rfl) | (simp [*, errW_none, errW_some] <;> rfl), by repeat (first | (with_reducible first | exact HB.out | apply below_alloc | apply pw_below_drewN | apply below_drew1 | refine below_set ?_ GE496.out) | exact HB.out)⟩
       · rw [if_neg c8] at H
         exact absurd H (by simp)
     · rw [if_neg c7] at H
       have c7b0 : (a0_0 == 3) = false := beq_eq_false_iff_ne.mpr c7
       have c7b1 : (a0_0 != 3) = true := bne_iff_ne.mpr c7
       by_cases c19 : a0_0 = 4
       · rw [if_pos c19] at H
         have c19b0 : (a0_0 == 4) = true := beq_iff_eq.mpr c19
         have c19b1 : (a0_0 != 4) = false := bne_eq_false_iff_eq.mpr c19
         clear c19
         by_cases c20 : 0 < (l0_2.length : Int)
         · rw [if_pos c20] at H
           have c20b0 : decide (0 < (l0_2.length : Int)) = true := decide_eq_true c20
           have c20b1 : decide (0 < l0_2.length) = true := decide_eq_true (by omega)
           clear c20
           replace H := Option.bind_eq_some_iff.mp H
           obtain ⟨t502, A210, H⟩ := H
           replace H : (if t502 = true then (some true) else (if 1 < (l0_2.length : Int) then ((regex_empty.f kj1 ((rd_T38 l0_2 1).f0) ((rd_T38 l0_2 1).f1) ((rd_T38 l0_2 1).f2)).bind fun t504 => (some t504)) else (none))) = some r := H
           have A21 := Aside0.mk A210
           clear A210
           by_cases c22 : t502 = true
           · subst c22
             have H1 : (some true) = some r := by rw [if_pos rfl] at H; exact H
             clear H
             have H := H1
             clear H1
             obtain rfl := Option.some.inj H
             have hcz23_0 : wc.cell? ⟨gb496, 0, none⟩ = some (.int .i64 a0_0) := (blk_cell BK496.out 0).trans rfl
             have hcz23_1 : wc.cell? ⟨gb496, 1, none⟩ = some (.slice A0_1 l0_1.length c0_1) := (blk_cell BK496.out 1).trans rfl
             have hcz23_2 : wc.cell? ⟨gb496, 2, none⟩ = some (.slice A0_2 l0_2.length c0_2) := (blk_cell BK496.out 2).trans rfl
             have hfz23_0 := blk_frozen BK496.out 0
             have hfz23_1 := blk_frozen BK496.out 1
             have hfz23_2 := blk_frozen BK496.out 2
             have p501 : 0 ≤ (0 : Int) := (by omega)
             have q501 : 0 < (l0_2.length : Int) := of_decide_eq_true (by first | (with_reducible assumption) | assumption)
             obtain ⟨ad501, A501_1, c501_1, A501_2, c501_2, e501, hx501_0, hx501_1, hx501_2, hl501_1, hi501_1, hl501_2, hi501_2⟩ := at_T38 HR0_2.out 0 p501 q501
             cases e501
             have qi501 : (0 < l0_2.length) = True := eq_true (by omega)
             (try rw [show ((0 : Int)).toNat = 0 from rfl] at hx501_0)
             (try rw [show 0 * 3 = 0 from rfl] at hx501_0)
             (try rw [Addr.add_zero'] at hx501_0)
             (try rw [show ((0 : Int)).toNat = 0 from rfl] at hx501_1)
             (try rw [show 0 * 3 = 0 from rfl] at hx501_1)
             (try rw [Addr.add_zero'] at hx501_1)
             (try rw [show ((0 : Int)).toNat = 0 from rfl] at hx501_2)
             (try rw [show 0 * 3 = 0 from rfl] at hx501_2)
             (try rw [Addr.add_zero'] at hx501_2)
             replace hx501_0 := (HB.out.cell (World.block_lt_of_cell? w _ hx501_0)).trans hx501_0
             replace hx501_1 := (HB.out.cell (World.block_lt_of_cell? w _ hx501_1)).trans hx501_1
             replace hx501_2 := (HB.out.cell (World.block_lt_of_cell? w _ hx501_2)).trans hx501_2
             have HR501_1 := Aside0.mk hi501_1
             have HC501_1 := Aside0.mk hl501_1
             clear hi501_1 hl501_1
             have HR501_2 := Aside0.mk hi501_2
             have HC501_2 := Aside0.mk hl501_2
             clear hi501_2 hl501_2
             replace p501 := eq_true p501
             replace q501 := eq_true q501
             go_wp2_with (first | ((with_reducible refine gate_callee (f := 69) rfl ?_); refine goesL_ (some 28) rfl rfl Tryz.func69 (by kernel_rfl) rfl #[.agg #[.int .i64 ((rd_T38 l0_2 0).f0), .slice A501_1 ((rd_T38 l0_2 0).f1).length c501_1, .slice A501_2 ((rd_T38 l0_2 0).f2).length c501_2]] rfl (by (try simp only [List.map_toArray, List.map_cons, List.map_nil]); first | done | rfl | (simp only [List.length_drop, List.length_take]; rfl)) ?_; (with_reducible refine (ih kj1 (by have := HJ1.out; omega) ((rd_T38 l0_2 0).f0) _ _ ((rd_T38 l0_2 0).f1) _ _ ((rd_T38 l0_2 0).f2) true _ ?side1 ?side2 ?side3 ?side4 A21.out).mono ?_); (case side1 => repeat (first | exact (Kd.C_below HR501_1.out HB.out) | (with_reducible refine Kd.C_alloc ?_ _) | (with_reducible refine Kd.C_drewN ?_ _) | (with_reducible refine Kd.C_drew ?_))); (case side2 => exact HC501_1.out); (case side3 => repeat (first | exact (Kd.C_below HR501_2.out HB.out) | (with_reducible refine Kd.C_alloc ?_ _) | (with_reducible refine Kd.C_drewN ?_ _) | (with_reducible refine Kd.C_drew ?_))); (case side4 => exact HC501_2.out); rintro e w24 ⟨rfl, hb⟩; refine ⟨_, rfl, ?_⟩; have n0_ := Aside0.mk (blk_below (g := gb496) (o := .cells #[.int .i64 a0_0, .slice A0_1 l0_1.length c0_1, .slice (some ad501) l0_2.length c0_2] 38 (0, 0)) (by (with_reducible repeat (first | refine blk_drewN ?_ _ | refine blk_drew ?_ | refine blk_alloc ?_ _)); exact BK496.out) hb); have n1_ := Aside0.mk (below_step (by repeat (first | (with_reducible first | exact HB.out | apply below_alloc | apply pw_below_drewN | apply below_drew1 | refine below_set ?_ GE496.out) | exact HB.out)) hb); clear BK496; clear HB; have BK496 := n0_; have HB := n1_; clear n0_ n1_; (try clear hb); (try clear hb2); (try clear hk); (try clear hi)))
             go_ret
             exact ⟨by first | rfl | (simp [errW_none, errW_some] <;> rfl) | (simp [*, errW_none, errW_some] <;> rfl), by repeat (first | (with_reducible first | exact HB.out | apply below_alloc | apply pw_below_drewN | apply below_drew1 | refine below_set ?_ GE496.out) | exact HB.out)⟩
           · replace c22 := Bool.eq_false_iff.mpr c22
             subst c22
             have H1 : (if 1 < (l0_2.length : Int) then ((regex_empty.f kj1 ((rd_T38 l0_2 1).f0) ((rd_T38 l0_2 1).f1) ((rd_T38 l0_2 1).f2)).bind fun t504 => (some t504)) else (none)) = some r := by rw [if_neg (show ¬ (false = true) by decide)] at H; exact H
             clear H
             have H := H1
             clear H1
             by_cases c25 : 1 < (l0_2.length : Int)
             · rw [if_pos c25] at H
               have c25b0 : decide (1 < (l0_2.length : Int)) = true := decide_eq_true c25
               have c25b1 : decide (1 < l0_2.length) = true := decide_eq_true (by omega)
               clear c25
               replace H := Option.bind_eq_some_iff.mp H
               obtain ⟨t504, A260, H⟩ := H
               replace H : (some t504) = some r := H
               have A26 := Aside0.mk A260
               clear A260
               obtain rfl := Option.some.inj H
               have hcz27_0 : wc.cell? ⟨gb496, 0, none⟩ = some (.int .i64 a0_0) := (blk_cell BK496.out 0).trans rfl
               have hcz27_1 : wc.cell? ⟨gb496, 1, none⟩ = some (.slice A0_1 l0_1.length c0_1) := (blk_cell BK496.out 1).trans rfl
               have hcz27_2 : wc.cell? ⟨gb496, 2, none⟩ = some (.slice A0_2 l0_2.length c0_2) := (blk_cell BK496.out 2).trans rfl
               have hfz27_0 := blk_frozen BK496.out 0
               have hfz27_1 := blk_frozen BK496.out 1
               have hfz27_2 := blk_frozen BK496.out 2
               have p501 : 0 ≤ (0 : Int) := (by omega)
               have q501 : 0 < (l0_2.length : Int) := of_decide_eq_true (by first | (with_reducible assumption) | assumption)
               obtain ⟨ad501, A501_1, c501_1, A501_2, c501_2, e501, hx501_0, hx501_1, hx501_2, hl501_1, hi501_1, hl501_2, hi501_2⟩ := at_T38 HR0_2.out 0 p501 q501
               cases e501
               have qi501 : (0 < l0_2.length) = True := eq_true (by omega)
               (try rw [show ((0 : Int)).toNat = 0 from rfl] at hx501_0)
               (try rw [show 0 * 3 = 0 from rfl] at hx501_0)
               (try rw [Addr.add_zero'] at hx501_0)
               (try rw [show ((0 : Int)).toNat = 0 from rfl] at hx501_1)
               (try rw [show 0 * 3 = 0 from rfl] at hx501_1)
               (try rw [Addr.add_zero'] at hx501_1)
               (try rw [show ((0 : Int)).toNat = 0 from rfl] at hx501_2)
               (try rw [show 0 * 3 = 0 from rfl] at hx501_2)
               (try rw [Addr.add_zero'] at hx501_2)
               replace hx501_0 := (HB.out.cell (World.block_lt_of_cell? w _ hx501_0)).trans hx501_0
               replace hx501_1 := (HB.out.cell (World.block_lt_of_cell? w _ hx501_1)).trans hx501_1
               replace hx501_2 := (HB.out.cell (World.block_lt_of_cell? w _ hx501_2)).trans hx501_2
               have HR501_1 := Aside0.mk hi501_1
               have HC501_1 := Aside0.mk hl501_1
               clear hi501_1 hl501_1
               have HR501_2 := Aside0.mk hi501_2
               have HC501_2 := Aside0.mk hl501_2
               clear hi501_2 hl501_2
               replace p501 := eq_true p501
               replace q501 := eq_true q501
               go_wp2_with (first | ((with_reducible refine gate_callee (f := 69) rfl ?_); refine goesL_ (some 28) rfl rfl Tryz.func69 (by kernel_rfl) rfl #[.agg #[.int .i64 ((rd_T38 l0_2 0).f0), .slice A501_1 ((rd_T38 l0_2 0).f1).length c501_1, .slice A501_2 ((rd_T38 l0_2 0).f2).length c501_2]] rfl (by (try simp only [List.map_toArray, List.map_cons, List.map_nil]); first | done | rfl | (simp only [List.length_drop, List.length_take]; rfl)) ?_; (with_reducible refine (ih kj1 (by have := HJ1.out; omega) ((rd_T38 l0_2 0).f0) _ _ ((rd_T38 l0_2 0).f1) _ _ ((rd_T38 l0_2 0).f2) false _ ?side1 ?side2 ?side3 ?side4 A21.out).mono ?_); (case side1 => repeat (first | exact (Kd.C_below HR501_1.out HB.out) | (with_reducible refine Kd.C_alloc ?_ _) | (with_reducible refine Kd.C_drewN ?_ _) | (with_reducible refine Kd.C_drew ?_))); (case side2 => exact HC501_1.out); (case side3 => repeat (first | exact (Kd.C_below HR501_2.out HB.out) | (with_reducible refine Kd.C_alloc ?_ _) | (with_reducible refine Kd.C_drewN ?_ _) | (with_reducible refine Kd.C_drew ?_))); (case side4 => exact HC501_2.out); rintro e w28 ⟨rfl, hb⟩; refine ⟨_, rfl, ?_⟩; have n0_ := Aside0.mk (blk_below (g := gb496) (o := .cells #[.int .i64 a0_0, .slice A0_1 l0_1.length c0_1, .slice (some ad501) l0_2.length c0_2] 38 (0, 0)) (by (with_reducible repeat (first | refine blk_drewN ?_ _ | refine blk_drew ?_ | refine blk_alloc ?_ _)); exact BK496.out) hb); have n1_ := Aside0.mk (below_step (by repeat (first | (with_reducible first | exact HB.out | apply below_alloc | apply pw_below_drewN | apply below_drew1 | refine below_set ?_ GE496.out) | exact HB.out)) hb); clear BK496; clear HB; have BK496 := n0_; have HB := n1_; clear n0_ n1_; (try clear hb); (try clear hb2); (try clear hk); (try clear hi); have hcz29_0 : w28.cell? ⟨gb496, 0, none⟩ = some (.int .i64 a0_0) := (blk_cell BK496.out 0).trans rfl; have hcz29_1 : w28.cell? ⟨gb496, 1, none⟩ = some (.slice A0_1 l0_1.length c0_1) := (blk_cell BK496.out 1).trans rfl; have hcz29_2 : w28.cell? ⟨gb496, 2, none⟩ = some (.slice (some ad501) l0_2.length c0_2) := (blk_cell BK496.out 2).trans rfl; have hfz29_0 := blk_frozen BK496.out 0; have hfz29_1 := blk_frozen BK496.out 1; have hfz29_2 := blk_frozen BK496.out 2; have p503 : 0 ≤ (1 : Int) := (by omega); have q503 : 1 < (l0_2.length : Int) := of_decide_eq_true (by first | (with_reducible assumption) | assumption); obtain ⟨ad503, A503_1, c503_1, A503_2, c503_2, e503, hx503_0, hx503_1, hx503_2, hl503_1, hi503_1, hl503_2, hi503_2⟩ := at_T38 HR0_2.out 1 p503 q503; obtain rfl : ad501 = ad503 := (by injection e503); (try simp only [show (1 : Int).toNat = 1 from rfl, Nat.reduceMul, Nat.reduceEqDiff, Go.Addr.add, ↓reduceIte] at hx503_0); (try simp only [show (1 : Int).toNat = 1 from rfl, Nat.reduceMul, Nat.reduceEqDiff, Go.Addr.add, ↓reduceIte] at hx503_1); (try simp only [show (1 : Int).toNat = 1 from rfl, Nat.reduceMul, Nat.reduceEqDiff, Go.Addr.add, ↓reduceIte] at hx503_2); have qi503 : (1 < l0_2.length) = True := eq_true (by omega); (try rw [show ((1 : Int)).toNat = 1 from rfl] at hx503_0); (try rw [show 1 * 3 = 3 from rfl] at hx503_0); (try rw [show ((1 : Int)).toNat = 1 from rfl] at hx503_1); (try rw [show 1 * 3 = 3 from rfl] at hx503_1); (try rw [show ((1 : Int)).toNat = 1 from rfl] at hx503_2); (try rw [show 1 * 3 = 3 from rfl] at hx503_2); replace hx503_0 := (HB.out.cell (World.block_lt_of_cell? w _ hx503_0)).trans hx503_0; replace hx503_1 := (HB.out.cell (World.block_lt_of_cell? w _ hx503_1)).trans hx503_1; replace hx503_2 := (HB.out.cell (World.block_lt_of_cell? w _ hx503_2)).trans hx503_2; have HR503_1 := Aside0.mk hi503_1; have HC503_1 := Aside0.mk hl503_1; clear hi503_1 hl503_1; have HR503_2 := Aside0.mk hi503_2; have HC503_2 := Aside0.mk hl503_2; clear hi503_2 hl503_2; replace p503 := eq_true p503; replace q503 := eq_true q503) | (go_at_call 69; (with_reducible refine (ih kj1 (by have := HJ1.out; omega) ((rd_T38 l0_2 1).f0) _ _ ((rd_T38 l0_2 1).f1) _ _ ((rd_T38 l0_2 1).f2) t504 _ ?side1 ?side2 ?side3 ?side4 A26.out).mono ?_); (case side1 => repeat (first | exact (Kd.C_below HR503_1.out HB.out) | (with_reducible refine Kd.C_alloc ?_ _) | (with_reducible refine Kd.C_drewN ?_ _) | (with_reducible refine Kd.C_drew ?_))); (case side2 => exact HC503_1.out); (case side3 => repeat (first | exact (Kd.C_below HR503_2.out HB.out) | (with_reducible refine Kd.C_alloc ?_ _) | (with_reducible refine Kd.C_drewN ?_ _) | (with_reducible refine Kd.C_drew ?_))); (case side4 => exact HC503_2.out); rintro e w30 ⟨rfl, hb⟩; have n0_ := Aside0.mk (blk_below (g := gb496) (o := .cells #[.int .i64 a0_0, .slice A0_1 l0_1.length c0_1, .slice (some ad501) l0_2.length c0_2] 38 (0, 0)) (by (with_reducible repeat (first | refine blk_drewN ?_ _ | refine blk_drew ?_ | refine blk_alloc ?_ _)); exact BK496.out) hb); have n1_ := Aside0.mk (below_step (by repeat (first | (with_reducible first | exact HB.out | apply below_alloc | apply pw_below_drewN | apply below_drew1 | refine below_set ?_ GE496.out) | exact HB.out)) hb); clear BK496; clear HB; have BK496 := n0_; have HB := n1_; clear n0_ n1_; (try clear hb); (try clear hb2); (try clear hk); (try clear hi)))
               go_ret
               exact ⟨by first | rfl | (simp [errW_none, errW_some] <;> rfl) | (simp [*, errW_none, errW_some] <;> rfl), by repeat (first | (with_reducible first | exact HB.out | apply below_alloc | apply pw_below_drewN | apply below_drew1 | refine below_set ?_ GE496.out) | exact HB.out)⟩
             · rw [if_neg c25] at H
               exact absurd H (by simp)
         · rw [if_neg c20] at H
           exact absurd H (by simp)
       · rw [if_neg c19] at H
         have c19b0 : (a0_0 == 4) = false := beq_eq_false_iff_ne.mpr c19
         have c19b1 : (a0_0 != 4) = true := bne_iff_ne.mpr c19
         obtain rfl := Option.some.inj H
         go_wp2
         go_ret
         exact ⟨by first | rfl | (simp [errW_none, errW_some] <;> rfl) | (simp [*, errW_none, errW_some] <;> rfl), by repeat (first | (with_reducible first | exact HB.out | apply below_alloc | apply pw_below_drewN | apply below_drew1 | refine below_set ?_ GE496.out) | exact HB.out)⟩
end Go.Proofs.YthdfmbmbjpmlaaaGreatDoor.Rn
end
section
namespace Go.Proofs
open Go.Shelf
def Tryz.sortSpan_ren : Go.Shelf.Ren := ⟨fun | 6 => 99 | 15 => 104 | 14 => 103 | 28 => 114 | 29 => 115 | 20 => 106 | 21 => 107 | 22 => 108 | 23 => 109 | 24 => 110 | 25 => 111 | 26 => 112 | 27 => 113 | 46 => 116 | 47 => 117 | 48 => 118 | 49 => 119 | 50 => 120 | 57 => 121 | n => n, fun | 22 => 111 | 24 => 120 | 25 => 124 | 3 => 3 | 39 => 82 | 0 => 0 | 53 => 138 | 55 => 140 | 4 => 4 | 46 => 131 | 45 => 130 | 50 => 135 | 5 => 5 | 9 => 9 | 66 => 141 | 70 => 145 | 76 => 147 | 77 => 28 | n => n, fun | n => n⟩
theorem Tryz.sortSpan : Go.Proofs.SlLaysF0.n6 Tryz.prog Tryz.sortSpan_ren := {
 mixed := by kernel_rfl
 f6 := ⟨Tryz.f99.name, by decide, Tryz.func99.trans (congrArg some (by kernel_rfl))⟩
 f14 := ⟨Tryz.f103.name, by decide, Tryz.func103.trans (congrArg some (by kernel_rfl))⟩
 f15 := Tryz.func104.trans (congrArg some (by kernel_rfl))
 f20 := ⟨Tryz.f106.name, by decide, Tryz.func106.trans (congrArg some (by kernel_rfl))⟩
 f21 := ⟨Tryz.f107.name, by decide, Tryz.func107.trans (congrArg some (by kernel_rfl))⟩
 f22 := ⟨Tryz.f108.name, by decide, Tryz.func108.trans (congrArg some (by kernel_rfl))⟩
 f23 := ⟨Tryz.f109.name, by decide, Tryz.func109.trans (congrArg some (by kernel_rfl))⟩
 f24 := ⟨Tryz.f110.name, by decide, Tryz.func110.trans (congrArg some (by kernel_rfl))⟩
 f25 := ⟨Tryz.f111.name, by decide, Tryz.func111.trans (congrArg some (by kernel_rfl))⟩
 f26 := ⟨Tryz.f112.name, by decide, Tryz.func112.trans (congrArg some (by kernel_rfl))⟩
 f27 := ⟨Tryz.f113.name, by decide, Tryz.func113.trans (congrArg some (by kernel_rfl))⟩
 f28 := Tryz.func114.trans (congrArg some (by kernel_rfl))
 f29 := Tryz.func115.trans (congrArg some (by kernel_rfl))
 f46 := ⟨Tryz.f116.name, by decide, Tryz.func116.trans (congrArg some (by kernel_rfl))⟩
 f47 := Tryz.func117.trans (congrArg some (by kernel_rfl))
 f48 := Tryz.func118.trans (congrArg some (by kernel_rfl))
 f49 := ⟨Tryz.f119.name, by decide, Tryz.func119.trans (congrArg some (by kernel_rfl))⟩
 f50 := ⟨Tryz.f120.name, by decide, Tryz.func120.trans (congrArg some (by kernel_rfl))⟩
 f57 := ⟨Tryz.f121.name, by decide, Tryz.func121.trans (congrArg some (by kernel_rfl))⟩
 t0 := Tryz.underlying0
 a0 := Tryz.isAgg0
 z0 := Tryz.sizeOf0
 v0 := Tryz.zeroValue0
 t3 := Tryz.underlying3
 a3 := Tryz.isAgg3
 z3 := Tryz.sizeOf3
 v3 := Tryz.zeroValue3
 t4 := Tryz.underlying4
 a4 := Tryz.isAgg4
 z4 := Tryz.sizeOf4
 v4 := Tryz.zeroValue4
 t5 := Tryz.underlying5
 a5 := Tryz.isAgg5
 z5 := Tryz.sizeOf5
 v5 := Tryz.zeroValue5
 t9 := Tryz.underlying9
 a9 := Tryz.isAgg9
 z9 := Tryz.sizeOf9
 v9 := Tryz.zeroValue9
 t22 := Tryz.underlying111
 a22 := Tryz.isAgg111
 z22 := Tryz.sizeOf111
 v22 := Tryz.zeroValue111
 t25 := Tryz.underlying124
 a25 := Tryz.isAgg124
 z25 := Tryz.sizeOf124
 v25 := Tryz.zeroValue124
 t39 := Tryz.underlying82
 a39 := Tryz.isAgg82
 z39 := Tryz.sizeOf82
 v39 := Tryz.zeroValue82
 t45 := Tryz.underlying130
 a45 := Tryz.isAgg130
 z45 := Tryz.sizeOf130
 v45 := Tryz.zeroValue130
 t46 := Tryz.underlying131
 a46 := Tryz.isAgg131
 z46 := Tryz.sizeOf131
 v46 := Tryz.zeroValue131
 t50 := Tryz.underlying135
 a50 := Tryz.isAgg135
 z50 := Tryz.sizeOf135
 v50 := Tryz.zeroValue135
 t53 := Tryz.underlying138
 a53 := Tryz.isAgg138
 z53 := Tryz.sizeOf138
 v53 := Tryz.zeroValue138
 t55 := Tryz.underlying140
 a55 := Tryz.isAgg140
 z55 := Tryz.sizeOf140
 v55 := Tryz.zeroValue140
 t66 := Tryz.underlying141
 a66 := Tryz.isAgg141
 z66 := Tryz.sizeOf141
 v66 := Tryz.zeroValue141
 t70 := Tryz.underlying145
 a70 := Tryz.isAgg145
 z70 := Tryz.sizeOf145
 v70 := Tryz.zeroValue145
 t76 := Tryz.underlying147
 a76 := Tryz.isAgg147
 z76 := Tryz.sizeOf147
 v76 := Tryz.zeroValue147
 t77 := Tryz.underlying28
 a77 := Tryz.isAgg28
 z77 := Tryz.sizeOf28
 v77 := Tryz.zeroValue28 }
def Tryz.cmpInt_ren : Go.Shelf.Ren := ⟨fun | 5 => 101 | 7 => 105 | n => n, fun | 22 => 3 | 3 => 3 | 4 => 4 | n => n, fun | n => n⟩
theorem Tryz.cmpInt : Go.Proofs.SlLaysC2.n5 Tryz.prog Tryz.cmpInt_ren := {
 mixed := by kernel_rfl
 f5 := ⟨Tryz.f101.name, by decide, Tryz.func101.trans (congrArg some (by kernel_rfl))⟩
 f7 := ⟨Tryz.f105.name, by decide, Tryz.func105.trans (congrArg some (by kernel_rfl))⟩
 t3 := Tryz.underlying3
 a3 := Tryz.isAgg3
 z3 := Tryz.sizeOf3
 v3 := Tryz.zeroValue3
 t4 := Tryz.underlying4
 a4 := Tryz.isAgg4
 z4 := Tryz.sizeOf4
 v4 := Tryz.zeroValue4
 t22 := Tryz.underlying3
 a22 := Tryz.isAgg3
 z22 := Tryz.sizeOf3
 v22 := Tryz.zeroValue3 }
end Go.Proofs
end
section
set_option linter.unusedVariables false
namespace Go.Proofs.YthdfmbmbjpmlaaaGreatDoor.Rn
abbrev Sp := S120
def inS (l : List Sp) (n : Int) : Prop := ∃ x, x ∈ l ∧ x.1 ≤ n ∧ n < x.2
theorem inS_nil (n : Int) : ¬ inS [] n := fun ⟨_, h, _⟩ => by cases h
theorem inS_cons (x : Sp) (l : List Sp) (n : Int) : inS (x :: l) n ↔ (x.1 ≤ n ∧ n < x.2) ∨ inS l n := by
 unfold inS
 constructor
 · rintro ⟨y, hy, h⟩
   rcases List.mem_cons.1 hy with rfl | hy
   · exact .inl h
   · exact .inr ⟨y, hy, h⟩
 · rintro (h | ⟨y, hy, h⟩)
   · exact ⟨x, List.mem_cons_self, h⟩
   · exact ⟨y, List.mem_cons_of_mem _ hy, h⟩
theorem inS_append (l m : List Sp) (n : Int) : inS (l ++ m) n ↔ inS l n ∨ inS m n := by
 induction l with
 | nil => simp [inS_nil]
 | cons x l ih => rw [List.cons_append, inS_cons, inS_cons, ih, or_assoc]
def NFb : Int → List Sp → Prop
 | _, [] => True
 | lo, x :: r => lo < x.1 ∧ x.1 < x.2 ∧ NFb x.2 r
theorem NFb_lt {l : List Sp} : ∀ {lo : Int}, NFb lo l → ∀ n, inS l n → lo < n := by
 induction l with
 | nil => intro lo _ n h; exact absurd h (inS_nil n)
 | cons x r ih =>
  intro lo h n hn
  obtain ⟨h1, h2, h3⟩ := h
  rcases (inS_cons x r n).1 hn with h4 | h4
  · omega
  · have := ih h3 n h4
    omega
theorem NFb_unique : ∀ (a b : List Sp) (lo : Int), NFb lo a → NFb lo b → (∀ n, inS a n ↔ inS b n) → a = b
 | [], [], _, _, _, _ => rfl
 | [], y :: t, _, _, hb, h => absurd ((h y.1).2 ((inS_cons y t y.1).2 (.inl ⟨by omega, hb.2.1⟩))) (inS_nil _)
 | x :: r, [], _, ha, _, h => absurd ((h x.1).1 ((inS_cons x r x.1).2 (.inl ⟨by omega, ha.2.1⟩))) (inS_nil _)
 | x :: r, y :: t, lo, ha, hb, h => by
  obtain ⟨a1, a2, a3⟩ := ha
  obtain ⟨b1, b2, b3⟩ := hb
  have e1 : x.1 = y.1 := by
   have h1 := (h x.1).1 ((inS_cons x r x.1).2 (.inl ⟨by omega, a2⟩))
   have h2 := (h y.1).2 ((inS_cons y t y.1).2 (.inl ⟨by omega, b2⟩))
   rcases (inS_cons y t x.1).1 h1 with h3 | h3 <;> rcases (inS_cons x r y.1).1 h2 with h4 | h4
   · omega
   · have := NFb_lt a3 _ h4; omega
   · have := NFb_lt b3 _ h3; omega
   · have := NFb_lt a3 _ h4; have := NFb_lt b3 _ h3; omega
  have e2 : x.2 = y.2 := by
   by_cases h1 : x.2 < y.2
   · have h2 := (h x.2).2 ((inS_cons y t x.2).2 (.inl ⟨by omega, h1⟩))
     rcases (inS_cons x r x.2).1 h2 with h3 | h3
     · omega
     · have := NFb_lt a3 _ h3; omega
   · by_cases h4 : y.2 < x.2
     · have h2 := (h y.2).1 ((inS_cons x r y.2).2 (.inl ⟨by omega, h4⟩))
       rcases (inS_cons y t y.2).1 h2 with h3 | h3
       · omega
       · have := NFb_lt b3 _ h3; omega
     · omega
  obtain ⟨x1, x2⟩ := x
  obtain ⟨y1, y2⟩ := y
  dsimp only at e1 e2 a1 a2 a3 b1 b2 b3
  subst e1 e2
  congr 1
  refine NFb_unique r t x2 a3 b3 (fun n => ⟨fun h1 => ?_, fun h1 => ?_⟩)
  · have h2 := NFb_lt a3 n h1
    rcases (inS_cons (⟨x1, x2⟩ : Sp) t n).1 ((h n).1 ((inS_cons (⟨x1, x2⟩ : Sp) r n).2 (.inr h1))) with h3 | h3
    · dsimp only at h3; omega
    · exact h3
  · have h2 := NFb_lt b3 n h1
    rcases (inS_cons (⟨x1, x2⟩ : Sp) r n).1 ((h n).2 ((inS_cons (⟨x1, x2⟩ : Sp) t n).2 (.inr h1))) with h3 | h3
    · dsimp only at h3; omega
    · exact h3
theorem NFb_snoc {p : List Sp} {y x : Sp} : ∀ {lo : Int}, NFb lo (p ++ [y]) → y.2 < x.1 → x.1 < x.2 → NFb lo (p ++ [y] ++ [x]) := by
 induction p with
 | nil => intro lo h h1 h2; exact ⟨h.1, h.2.1, h1, h2, trivial⟩
 | cons z p ih => intro lo h h1 h2; exact ⟨h.1, h.2.1, ih h.2.2 h1 h2⟩
theorem NFb_last {p : List Sp} {y : Sp} {m : Int} : ∀ {lo : Int}, NFb lo (p ++ [y]) → y.1 < m → NFb lo (p ++ [(⟨y.1, m⟩ : Sp)]) := by
 induction p with
 | nil => intro lo h h1; exact ⟨h.1, h1, trivial⟩
 | cons z p ih => intro lo h h1; exact ⟨h.1, h.2.1, ih h.2.2 h1⟩
theorem NFb_end {p : List Sp} {y : Sp} : ∀ {lo : Int}, NFb lo (p ++ [y]) → lo < y.1 ∧ y.1 < y.2 := by
 induction p with
 | nil => intro lo h; exact ⟨h.1, h.2.1⟩
 | cons z p ih => intro lo h; have := ih h.2.2; have h1 := h.1; have h2 := h.2.1; exact ⟨by omega, this.2⟩
def stepM (out : List Sp) (x : Sp) : List Sp :=
 match out.getLast? with
 | some y => if x.1 ≤ y.2 then out.dropLast ++ [(⟨y.1, max y.2 x.2⟩ : Sp)] else out ++ [x]
 | none => [x]
def mergeS (l : List Sp) : List Sp := l.foldl stepM []
theorem stepM_snoc (p : List Sp) (y x : Sp) : stepM (p ++ [y]) x = if x.1 ≤ y.2 then p ++ [(⟨y.1, max y.2 x.2⟩ : Sp)] else p ++ [y] ++ [x] := by
 unfold stepM
 rw [List.getLast?_concat]
 dsimp only
 rw [List.dropLast_concat]
theorem mergeS_snoc (l : List Sp) (x : Sp) : mergeS (l ++ [x]) = stepM (mergeS l) x := by simp [mergeS]
def Merged (l out : List Sp) : Prop :=
 NFb (-1) out ∧ (∀ n, inS out n ↔ inS l n) ∧ (out = [] ↔ l = []) ∧ (∀ p y, out = p ++ [y] → ∃ z, z ∈ l ∧ y.1 ≤ z.1)
theorem merged_step {l out : List Sp} {x : Sp} (h : Merged l out) (h0 : 0 ≤ x.1) (h1 : x.1 < x.2) (hs : ∀ z, z ∈ l → z.1 ≤ x.1) : Merged (l ++ [x]) (stepM out x) := by
 obtain ⟨a1, a2, a3, a4⟩ := h
 have hmem : ∀ n, inS [x] n ↔ x.1 ≤ n ∧ n < x.2 := fun n => by rw [inS_cons]; simp [inS_nil]
 rcases List.eq_nil_or_concat out with rfl | ⟨p, y, rfl⟩
 · have hl : l = [] := a3.1 rfl
   subst hl
   refine ⟨⟨by omega, h1, trivial⟩, fun n => Iff.rfl, by simp [stepM], fun p y e => ⟨x, by simp, ?_⟩⟩
   cases p with
   | nil => have : x = y := by simpa [stepM] using e
            rw [this]; omega
   | cons z p => simp [stepM] at e
 · rw [List.concat_eq_append] at *
   obtain ⟨z, hz, hyz⟩ := a4 p y rfl
   have hyx : y.1 ≤ x.1 := by have := hs z hz; omega
   have hye := NFb_end a1
   have hne : ¬ l = [] := fun e => by rw [e] at hz; cases hz
   rw [stepM_snoc]
   by_cases h2 : x.1 ≤ y.2
   · rw [if_pos h2]
     refine ⟨NFb_last a1 (by omega), fun n => ?_, by simp, fun q u e => ?_⟩
     · rw [inS_append l, ← a2, inS_append, inS_append, hmem, inS_cons, inS_cons]
       simp only [inS_nil, or_false]
       constructor
       · rintro (h3 | h3)
         · exact .inl (.inl h3)
         · by_cases h4 : n < y.2
           · exact .inl (.inr ⟨h3.1, h4⟩)
           · exact .inr (by omega)
       · rintro ((h3 | h3) | h3)
         · exact .inl h3
         · exact .inr (by omega)
         · exact .inr (by omega)
     · have := List.append_inj' e rfl
       obtain ⟨_, e2⟩ := this
       injection e2 with e2
       refine ⟨z, List.mem_append_left _ hz, ?_⟩
       rw [← e2]
       exact hyz
   · rw [if_neg h2]
     refine ⟨NFb_snoc a1 (by omega) h1, fun n => ?_, by simp, fun q u e => ?_⟩
     · rw [inS_append, inS_append l, a2]
     · have := List.append_inj' e rfl
       obtain ⟨_, e2⟩ := this
       injection e2 with e2
       exact ⟨x, by simp, by rw [← e2]; omega⟩
def Rising : List Sp → Prop
 | [] => True
 | x :: r => (∀ z, z ∈ r → x.1 ≤ z.1) ∧ Rising r
theorem merged_all (l : List Sp) (hr : ∀ i j (hi : i < j) (hj : j < l.length), (l[i]'(by omega)).1 ≤ l[j].1) (hv : ∀ x, x ∈ l → 0 ≤ x.1 ∧ x.1 < x.2) : ∀ k, k ≤ l.length → Merged (l.take k) (mergeS (l.take k)) := by
 intro k
 induction k with
 | zero => intro _; exact ⟨trivial, fun n => Iff.rfl, by simp [mergeS], fun p y e => by simp [mergeS] at e⟩
 | succ k ih =>
  intro hk
  have h := ih (by omega)
  rw [List.take_succ_eq_append_getElem (by omega), mergeS_snoc]
  have hx := hv l[k] (List.getElem_mem _)
  refine merged_step h hx.1 hx.2 (fun z hz => ?_)
  obtain ⟨i, hi, rfl⟩ := List.mem_iff_getElem.1 hz
  rw [List.length_take] at hi
  rw [List.getElem_take]
  exact hr i k (by omega) (by omega)
theorem merged_of {l : List Sp} (hr : ∀ i j (hi : i < j) (hj : j < l.length), (l[i]'(by omega)).1 ≤ l[j].1) (hv : ∀ x, x ∈ l → 0 ≤ x.1 ∧ x.1 < x.2) : NFb (-1) (mergeS l) ∧ ∀ n, inS (mergeS l) n ↔ inS l n := by
 have h := merged_all l hr hv l.length (Nat.le_refl _)
 rw [List.take_length] at h
 exact ⟨h.1, h.2.1⟩
theorem inS_perm {a b : List Sp} (h : ∀ x, x ∈ a ↔ x ∈ b) (n : Int) : inS a n ↔ inS b n :=
 ⟨fun ⟨x, hx, h1⟩ => ⟨x, (h x).1 hx, h1⟩, fun ⟨x, hx, h1⟩ => ⟨x, (h x).2 hx, h1⟩⟩
def insS (x : Sp) : List Sp → List Sp
 | [] => [x]
 | y :: r => if x.1 ≤ y.1 then x :: y :: r else y :: insS x r
def sortS : List Sp → List Sp
 | [] => []
 | x :: r => insS x (sortS r)
theorem insS_mem (x z : Sp) : ∀ l, z ∈ insS x l ↔ z = x ∨ z ∈ l
 | [] => by simp [insS]
 | y :: r => by
  unfold insS
  split
  · simp
  · rw [List.mem_cons, insS_mem x z r, List.mem_cons]
    constructor
    · rintro (h | h | h) <;> simp [h]
    · rintro (h | h | h) <;> simp [h]
theorem sortS_mem (z : Sp) : ∀ l, z ∈ sortS l ↔ z ∈ l
 | [] => by simp [sortS]
 | x :: r => by rw [sortS, insS_mem, sortS_mem z r, List.mem_cons]
theorem insS_rising (x : Sp) : ∀ l, Rising l → Rising (insS x l)
 | [], _ => ⟨(fun z h => by cases h), trivial⟩
 | y :: r, h => by
  unfold insS
  split
  · rename_i h1
    refine ⟨fun z hz => ?_, h⟩
    rcases List.mem_cons.1 hz with rfl | hz
    · exact h1
    · have := h.1 z hz; omega
  · rename_i h1
    refine ⟨fun z hz => ?_, insS_rising x r h.2⟩
    rcases (insS_mem x z r).1 hz with rfl | hz
    · omega
    · exact h.1 z hz
theorem sortS_rising : ∀ l, Rising (sortS l)
 | [] => trivial
 | x :: r => insS_rising x _ (sortS_rising r)
theorem rising_at : ∀ (l : List Sp), Rising l → ∀ i j (hi : i < j) (hj : j < l.length), (l[i]'(by omega)).1 ≤ l[j].1
 | [], _, i, j, hi, hj => absurd hj (by simp)
 | x :: r, h, i, j, hi, hj => by
  cases j with
  | zero => omega
  | succ j =>
   cases i with
   | zero => exact h.1 _ (by simp)
   | succ i => simpa using rising_at r h.2 i j (by omega) (by simpa using hj)
def nfS (l : List Sp) : List Sp := mergeS (sortS l)
theorem nfS_spec {l : List Sp} (hv : ∀ x, x ∈ l → 0 ≤ x.1 ∧ x.1 < x.2) : NFb (-1) (nfS l) ∧ ∀ n, inS (nfS l) n ↔ inS l n := by
 have h := merged_of (l := sortS l) (rising_at _ (sortS_rising l)) (fun x hx => hv x ((sortS_mem x l).1 hx))
 exact ⟨h.1, fun n => (h.2 n).trans (inS_perm (fun x => sortS_mem x l) n)⟩
theorem merge_any {l s : List Sp} (hp : ∀ x, x ∈ s ↔ x ∈ l) (hr : ∀ i j (hi : i < j) (hj : j < s.length), (s[i]'(by omega)).1 ≤ s[j].1) (hv : ∀ x, x ∈ l → 0 ≤ x.1 ∧ x.1 < x.2) : mergeS s = nfS l := by
 have h1 := merged_of hr (fun x hx => hv x ((hp x).1 hx))
 have h2 := nfS_spec hv
 exact NFb_unique _ _ (-1) h1.1 h2.1 (fun n => (h1.2 n).trans ((inS_perm hp n).trans (h2.2 n).symm))
theorem NFb_mem : ∀ {l : List Sp} {lo : Int}, NFb lo l → ∀ x, x ∈ l → lo < x.1 ∧ x.1 < x.2
 | [], _, _, x, hx => by cases hx
 | y :: r, lo, h, x, hx => by
  rcases List.mem_cons.1 hx with rfl | hx
  · exact ⟨h.1, h.2.1⟩
  · have := NFb_mem h.2.2 x hx
    have h1 := h.1
    have h2 := h.2.1
    omega
end Go.Proofs.YthdfmbmbjpmlaaaGreatDoor.Rn
end
section
set_option linter.unusedVariables false
set_option linter.unusedSimpArgs false
namespace Go.Proofs.YthdfmbmbjpmlaaaGreatDoor.Rn
open Go Go.RowKit Go.Proofs.YthdfmbmbjpmlaaaGreatDoorW.PrintWords Go.Proofs.YthdfmbmbjpmlaaaGreatDoorW.PrintLast Go.Proofs.YthdfmbmbjpmlaaaGreatDoorW.PrintMore
instance : Inhabited Sp := ⟨⟨0, 0⟩⟩
def encS (x : Sp) : List Value := [.int .i64 x.f0, .int .i64 x.f1]
def cmpS (x y : Sp) : Int := Lib.compareInt x.f0 y.f0
theorem ltS (x y : Sp) : Go.Proofs.ltOf cmpS x y = decide (x.f0 < y.f0) := by
 unfold Go.Proofs.ltOf cmpS Lib.compareInt
 by_cases h1 : x.f0 < y.f0
 · simp [h1]
 · by_cases h2 : y.f0 < x.f0 <;> simp [h1, h2]
theorem swoS : Go.Sort.SWO (Go.Proofs.ltOf cmpS) where
 irrefl x := by rw [ltS]; simp
 trans x y z h1 h2 := by rw [ltS] at *; simp at *; omega
 ntrans x y z h1 h2 := by rw [ltS] at *; simp at *; omega
set_option maxHeartbeats 1000000 in
theorem cmp_span (x y : Sp) (W : World) : Calls Tryz.prog 100 #[.agg #[.int .i64 x.f0, .int .i64 x.f1], .agg #[.int .i64 y.f0, .int .i64 y.f1]] W fun e w' => e = .returned (.int .i64 (cmpS x y)) ∧ ∃ q os', w' = Go.Sort.grow (W.drewN q) os' := by
 have hcon := fun W' => Go.Proofs.AnyG.cmp_Compare_int Go.Proofs.Tryz.cmpInt x.f0 y.f0 W'
 change ∀ W', Calls Tryz.prog 101 _ _ _ at hcon
 unfold cmpS
 generalize Lib.compareInt x.f0 y.f0 = r at hcon ⊢
 go_enter Tryz.func100, Tryz.ntmps100
 go_wp2_with (go_at_call 101; refine (hcon _).mono ?_; rintro e w' ⟨rfl, rfl⟩)
 go_ret
 exact ⟨rfl, 0, _, by rw [Go.Sort.alloc_eq_grow, Go.Sort.alloc_eq_grow, Go.Sort.grow_grow]; rfl⟩
theorem cmp_lays (blk off size : Nat) (w : World) : Go.Proofs.CmpLays Tryz.prog 100 #[] encS 2 cmpS blk off size w :=
 fun _ _ _ _ x y => cmp_span x y _
theorem flat_inner {M : Sp → List Value → Prop} (hM : ∀ x cs, M x cs → cs = encS x) {xs : List Sp} {inner : List Value} (h : Reps M 2 xs inner) (t : Nat) (ht : t < xs.length * 2) : inner[t]? = some ((encS (xs.toArray[t / 2]!))[t % 2]!) := by
 have hj : t / 2 < xs.length := by omega
 have h1 := hM _ _ (h.2 (t / 2) xs[t / 2] (List.getElem?_eq_getElem hj))
 have h2 : xs.toArray[t / 2]! = xs[t / 2] := by simp [hj]
 rw [h2]
 have h3 : ((inner.drop (t / 2 * 2)).take 2)[t % 2]? = inner[t]? := by
  rw [List.getElem?_take, if_pos (by omega), List.getElem?_drop]
  congr 1
  omega
 rw [← h3, h1]
 have h4 : t % 2 = 0 ∨ t % 2 = 1 := by omega
 rcases h4 with h4 | h4 <;> rw [h4] <;> rfl
theorem reps_flat {M : Sp → List Value → Prop} (hM : ∀ x, M x (encS x)) (d : Array Sp) : Reps M 2 d.toList (Go.Sort.flatK encS 2 d).toList := by
 refine ⟨by simp, fun j p hp => ?_⟩
 have hj : j < d.size := by have := (List.getElem?_eq_some_iff.1 hp).1; simpa using this
 have e : ((Go.Sort.flatK encS 2 d).toList.drop (j * 2)).take 2 = encS p := by
  have hp2 : d[j]! = p := by
   have := (List.getElem?_eq_some_iff.1 hp).2
   simp [hj]
   simpa using this
  apply List.ext_getElem?
  intro t
  rw [List.getElem?_take]
  by_cases h2 : t < 2
  · rw [if_pos h2, List.getElem?_drop]
    have h3 := Go.Sort.get_flatK encS 2 d (j * 2 + t) (by omega)
    have h4 : j * 2 + t < (Go.Sort.flatK encS 2 d).size := by simp; omega
    rw [Array.getElem?_toList, Array.getElem?_eq_getElem h4]
    rw [getElem!_pos (Go.Sort.flatK encS 2 d) (j * 2 + t) h4] at h3
    rw [h3, show (j * 2 + t) / 2 = j by omega, show (j * 2 + t) % 2 = t by omega, hp2]
    have h5 : t = 0 ∨ t = 1 := by omega
    rcases h5 with rfl | rfl <;> rfl
  · rw [if_neg h2]
    symm
    rw [List.getElem?_eq_none]
    show 2 ≤ t
    omega
 rw [e]
 exact hM p
theorem sorted_blk {w : World} {g m : Nat} {cur : Array Value} {e : TypeId} (h : w.heap[g]? = some (.cells cur e (0, 0))) (d : Array Sp) (os : Array Obj) :
 (Go.Proofs.sortWorldK encS 2 w g 0 m d os).heap[g]? = some (.cells (Go.Sort.putCells id 0 (Go.Sort.flatK encS 2 d) cur) e (0, 0)) := by
 have hg := blk_lt h
 show ((Go.Sort.ahead w m).heap.modify g _ ++ os)[g]? = _
 rw [Array.getElem?_append_left (by simpa [Go.Sort.ahead] using hg), Array.getElem?_modify, if_pos rfl]
 show (w.heap[g]?).map _ = _
 rw [h]
 rfl
theorem sorted_far {w : World} {g m k : Nat} (hk : k < w.heap.size) (hne : g ≠ k) (d : Array Sp) (os : Array Obj) : (Go.Proofs.sortWorldK encS 2 w g 0 m d os).heap[k]? = w.heap[k]? := by
 show ((Go.Sort.ahead w m).heap.modify g _ ++ os)[k]? = _
 rw [Array.getElem?_append_left (by simpa [Go.Sort.ahead] using hk), Array.getElem?_modify, if_neg hne]
 rfl
theorem sorted_size {w : World} {g m : Nat} (d : Array Sp) (os : Array Obj) : w.heap.size ≤ (Go.Proofs.sortWorldK encS 2 w g 0 m d os).heap.size := by
 show _ ≤ ((Go.Sort.ahead w m).heap.modify g _ ++ os).size
 simp [Go.Sort.ahead]
theorem put_take (F cur : Array Value) (h : F.size ≤ cur.size) : (Go.Sort.putCells id 0 F cur).toList.take F.size = F.toList := by
 apply List.ext_getElem?
 intro t
 rw [List.getElem?_take]
 by_cases ht : t < F.size
 · rw [if_pos ht]
   unfold Go.Sort.putCells
   have h2 : t < cur.size := by omega
   simp [ht, h2]
 · rw [if_neg ht, List.getElem?_eq_none]
   simp
   omega
theorem sort_any (A : Option Addr) (xs : List Sp) (c base : Nat) (w : World) (hR : Kd.R k120 120 w base (fun _ => True) (.slice A xs.length c) xs) (hl : xs.length < 1000000000000) :
 Calls Tryz.prog 99 #[.slice A xs.length c, .func (.func 100) #[] #[]] w fun e w' => e = .returned (.tuple #[]) ∧ ∃ ys, ys.length = xs.length ∧ (∀ x, x ∈ ys ↔ x ∈ xs) ∧ (∀ i j (hi : i < j) (hj : j < ys.length), (ys[i]'(by omega)).1 ≤ ys[j].1) ∧ Kd.R k120 120 w' base (fun _ => True) (.slice A xs.length c) ys ∧ Below base w w' := by
 by_cases h0 : xs = []
 · subst h0
   have hcon := Go.Proofs.AnyF.slices_SortFunc_none Go.Proofs.Tryz.sortSpan A c (.func (.func 100) #[] #[]) w
   change Calls Tryz.prog 99 _ _ _ at hcon
   refine hcon.mono ?_
   rintro e w' ⟨rfl, rfl⟩
   exact ⟨rfl, [], rfl, fun x => Iff.rfl, fun i j hi hj => absurd hj (by simp), hR, Below.refl _ _⟩
 have hn : 0 < xs.length := List.length_pos_iff.2 h0
 obtain ⟨_, inner, ho, hr⟩ := hR
 rcases ho.2 with ⟨_, h1⟩ | ⟨g, cap, cur, hv, hbg, hg, hnc, hcm, hcs, htake⟩
 · omega
 injection hv with hA _ hc
 subst hA hc
 have htake2 : cur.toList.take (xs.length * 2) = inner := htake
 have hcs2 : cur.size = c * 2 := hcs
 have hMo : ∀ x cs, k120.M w base (fun k => True ∧ some k ≠ (Value.slice (some ⟨g, 0, none⟩) xs.length c).ownBlock) x cs → cs = encS x := fun x cs h => k120_openM h
 have hfl : ∀ t, t < xs.length * 2 → cur[t]? = some ((encS (xs.toArray[t / 2]!))[t % 2]!) := fun t ht => by
  have h2 := flat_inner hMo hr t ht
  rw [← htake2, List.getElem?_take, if_pos ht] at h2
  simpa using h2
 have hH : Go.Sort.HoldsK encS 2 w g 0 xs.toArray := fun t ht => by
  have ht' : t < xs.length * 2 := by simpa using ht
  rw [Nat.zero_add]
  refine ⟨?_, blk_frozen hg t⟩
  rw [blk_cell hg t, hfl t ht', Go.Sort.get_flatK encS 2 _ t (by simpa using ht')]
  rfl
 have eg : ∀ args w, (callFunc 100 args).run Tryz.prog w = .ok (.enter 100 args) w := enters_of Tryz.func100 (by kernel_rfl) rfl
 have hcon := Go.Proofs.AnyQ.slices_SortFunc Go.Proofs.Tryz.sortSpan 2 Tryz.isAgg120 Tryz.sizeOf120 encS (fun _ => rfl) (fun x v hv => by simp [encS] at hv; rcases hv with rfl | rfl <;> rfl) cmpS swoS 100 #[] g 0 c xs.toArray w eg (cmp_lays g 0 _ w) hH (blk_lt hg) (by simp; omega)
 change Calls Tryz.prog 99 _ _ _ at hcon
 simp only [List.size_toArray] at hcon
 refine hcon.mono ?_
 rintro e w' ⟨rfl, d', m, os, hp, hs, rfl⟩
 obtain ⟨hsz, _, hperm⟩ := hp
 have hsz' : d'.size = xs.length := by simpa using hsz
 have hex : ∀ x, x ∈ d'.toList ↔ x ∈ xs := fun x => by
  have h3 := hperm.mem_iff (a := x)
  have e1 : d'.extract 0 xs.length = d' := by rw [← hsz']; exact Array.extract_size
  have e2 : xs.toArray.extract 0 xs.length = xs.toArray := by simp
  rw [e1, e2] at h3
  simpa using h3
 have hF : (Go.Sort.flatK encS 2 d').size = xs.length * 2 := by rw [Go.Sort.size_flatK, hsz']
 refine ⟨rfl, d'.toList, by simpa using hsz', hex, fun i j hi hj => ?_, ?_, ?_⟩
 · have hj' : j < d'.size := by simpa using hj
   have h4 := hs i j (Nat.zero_le _) hi (by omega)
   rw [ltS] at h4
   rw [getElem!_pos d' i (by omega), getElem!_pos d' j hj'] at h4
   have h5 := of_decide_eq_false h4
   simp only [Array.getElem_toList]
   show d'[i].f0 ≤ d'[j].f0
   omega
 · refine ⟨fun _ _ => trivial, (Go.Sort.flatK encS 2 d').toList, ⟨by rw [show k120.sz = 2 from rfl]; simp, .inr ⟨g, c, _, by rw [show d'.toList.length = xs.length by simpa using hsz'], hbg, sorted_blk hg d' os, by simpa [hsz'] using hnc, hcm, by rw [show k120.sz = 2 from rfl]; simp [Go.Sort.putCells, hcs2], ?_⟩⟩, reps_flat (fun x => k120_mkM _ _ _ x) d'⟩
   have h6 := put_take (Go.Sort.flatK encS 2 d') cur (by rw [hF, hcs2]; omega)
   rw [hF] at h6
   show List.take (d'.toList.length * 2) _ = _
   rw [show d'.toList.length = xs.length by simpa using hsz']
   exact h6
 · exact ⟨rfl, rfl, rfl, sorted_size d' os, fun k hk => sorted_far (by have := blk_lt hg; omega) (by omega) d' os⟩
end Go.Proofs.YthdfmbmbjpmlaaaGreatDoor.Rn
end
section
set_option linter.unusedVariables false
set_option linter.unusedSimpArgs false
namespace Go.Proofs.YthdfmbmbjpmlaaaGreatDoor.Rn
open Go Go.RowKit Go.Proofs.YthdfmbmbjpmlaaaGreatDoorW.PrintWords Go.Proofs.YthdfmbmbjpmlaaaGreatDoorW.PrintLast Go.Proofs.YthdfmbmbjpmlaaaGreatDoorW.PrintMore
def numS (r : Int) : Int := (runes_number.f r).getD 0
def behS (r : Int) : Int := (runes_behind.f r).getD 0
theorem num_f (r : Int) : runes_number.f r = some (numS r) := by
 unfold numS runes_number.f
 by_cases h1 : r < 0
 · simp only [if_pos h1, Option.getD_some]
 by_cases h2 : r < 55296
 · simp only [if_neg h1, if_pos h2, Option.getD_some]
 by_cases h3 : r ≤ 57343
 · simp only [if_neg h1, if_neg h2, if_pos h3, Option.getD_some]
 · simp only [if_neg h1, if_neg h2, if_neg h3, Option.getD_some]
theorem beh_f (r : Int) : runes_behind.f r = some (behS r) := by
 unfold behS runes_behind.f
 rw [num_f, is_f]
 simp only [Option.bind_some]
 cases h : isS r
 · simp
 · simp
def keepS (x : Rg) : List Sp := if x.f0 ≤ x.f1 ∧ numS x.f0 < behS x.f1 then [⟨numS x.f0, behS x.f1⟩] else []
def rawS (l : List Rg) : List Sp := l.flatMap keepS
theorem rawS_snoc (l : List Rg) (k : Nat) (x : Rg) (h : l[k]? = some x) : rawS (l.take (k + 1)) = rawS (l.take k) ++ keepS x := by
 unfold rawS
 rw [List.take_add_one, h, List.flatMap_append]
 simp
theorem rawS_len (l : List Rg) : (rawS l).length ≤ l.length := by
 induction l with
 | nil => simp [rawS]
 | cons x l ih =>
  unfold rawS at *
  rw [List.flatMap_cons, List.length_append, List.length_cons]
  have : (keepS x).length ≤ 1 := by unfold keepS; split <;> simp
  omega
theorem rawS_take (l : List Rg) (k : Nat) : (rawS (l.take k)).length ≤ k := by
 have := rawS_len (l.take k)
 rw [List.length_take] at this
 omega
theorem R_append50 {P : Program} {ops : Array Oper} {o : Oper} {a : Act} {Q : Exit → Act → World → Prop} {rest : List Oper} (hP : P = Tryz.prog) {w0 W : World} (base : Nat) (hgd : o.guard = none) (s x : Operand)
 (ho : o.op = .call { callee := .builtin .append, args := #[s, x], argTypes := #[111, 111] })
 (A : Option Addr) (c n : Nat) (xs : List Sp) (p : Sp) (hs : a.eval s = .slice A n c) (hn : xs.length = n) (hx : a.eval x = .slice (some ⟨W.heap.size, 0, none⟩) 1 1)
 (HO : Kd.R k120 120 W base (fun _ => True) (.slice A n c) xs) (HB : Below base w0 W) (hbase : base ≤ W.heap.size) (hl : (xs.length + 1) * 16 ≤ 140737488355328)
 (h : ∀ A1 c1 w1, Kd.R k120 120 w1 base (fun _ => True) (.slice A1 (n + 1) c1) (xs ++ [p]) → Below base w0 w1 → W.grownBy w1 (Value.slice A n c).ownBlock → ((Value.slice A1 (n + 1) c1).ownBlock = (Value.slice A n c).ownBlock ∨ ∃ b, (Value.slice A1 (n + 1) c1).ownBlock = some b ∧ W.heap.size ≤ b) → wpList P ops Q rest (a.put o.dst (.slice A1 (n + 1) c1)) w1) :
 wpList P ops Q (o :: rest) a (W.alloc (.cells #[.int .i64 p.f0, .int .i64 p.f1] 120)) := by
 subst hP hn
 exact R_appendS k120 (w0 := w0) base hgd s x 111 120 (.agg #[.int .i64 0, .int .i64 0]) 16 ho Tryz.underlying111 info120 rfl (by decide) (by decide) (.slice A xs.length c) xs p _ (fun _ => True) (fun _ => False) hs hx (k120_mkM _ _ _ p) (fun _ h => h.elim) (fun _ _ => trivial) HO HB hbase hl h
def okR (l : List Rg) : Bool := decide (l.length ≤ 1000000) && l.all (fun x => decide (-2147483648 ≤ x.f0) && decide (x.f0 < 2147483648) && decide (-2147483648 ≤ x.f1) && decide (x.f1 < 2147483648))
def spansS (l : List Rg) : List Sp := nfS (rawS l)
def runes_spans.f (l0 : List Rg) : Option (List Sp) := if okR l0 = true then some (spansS l0) else none
def KeptAt (l0 : List Rg) (w : World) (k : Nat) (A1 : Option Addr) (c1 : Nat) (W : World) : Prop :=
 Kd.R k120 120 W w.heap.size (fun _ => True) (.slice A1 (rawS (l0.take k)).length c1) (rawS (l0.take k)) ∧ Below w.heap.size w W
theorem num_nonneg {r : Int} (h1 : -2147483648 ≤ r) (h2 : r < 2147483648) : 0 ≤ numS r := by
 unfold numS runes_number.f
 by_cases c1 : r < 0
 · simp [c1]
 by_cases c2 : r < 55296
 · simp only [if_neg c1, if_pos c2, Option.getD_some]
   unfold wrap64
   omega
 by_cases c3 : r ≤ 57343
 · simp [c1, c2, c3]
 · simp only [if_neg c1, if_neg c2, if_neg c3, Option.getD_some]
   unfold mn wrap64
   split <;> omega
theorem okR_at {l : List Rg} (h : okR l = true) : ∀ x, x ∈ l → -2147483648 ≤ x.f0 ∧ x.f0 < 2147483648 ∧ -2147483648 ≤ x.f1 ∧ x.f1 < 2147483648 := fun x hx => by
 unfold okR at h
 simp only [Bool.and_eq_true, decide_eq_true_eq, List.all_eq_true] at h
 have h2 := h.2 x hx
 omega
theorem rawS_valid {l : List Rg} (h : okR l = true) : ∀ x, x ∈ rawS l → 0 ≤ x.1 ∧ x.1 < x.2 := fun x hx => by
 obtain ⟨y, hy, hxy⟩ := List.mem_flatMap.1 hx
 have hb := okR_at h y hy
 unfold keepS at hxy
 by_cases c : y.f0 ≤ y.f1 ∧ numS y.f0 < behS y.f1
 · rw [if_pos c] at hxy
   obtain rfl := List.mem_singleton.1 hxy
   exact ⟨num_nonneg hb.1 hb.2.1, c.2⟩
 · rw [if_neg c] at hxy
   cases hxy
theorem sp_own {W : World} {base n c : Nat} {ok : Nat → Prop} {A : Option Addr} {xs : List Sp} (h : Kd.R k120 120 W base ok (.slice A n c) xs) (hn : 0 < xs.length) :
 ∃ g, A = some ⟨g, 0, none⟩ ∧ base ≤ g ∧ (∃ cur, W.heap[g]? = some (.cells cur 120 (0, 0))) ∧ ∀ j x, xs[j]? = some x → W.cell? ⟨g, j * 2, none⟩ = some (.int .i64 x.f0) ∧ W.cell? ⟨g, j * 2 + 1, none⟩ = some (.int .i64 x.f1) := by
 obtain ⟨_, inner, ho, hr⟩ := h
 rcases ho.2 with ⟨_, h1⟩ | ⟨g, cap, cur, hv, hbg, hg, hnc, hcm, hcs, htake⟩
 · omega
 injection hv with hA _ hc
 subst hA hc
 refine ⟨g, rfl, hbg, ⟨cur, hg⟩, fun j x hx => ?_⟩
 have hj : j < xs.length := (List.getElem?_eq_some_iff.1 hx).1
 have htake2 : cur.toList.take (xs.length * 2) = inner := htake
 have hfl : ∀ t, t < xs.length * 2 → cur[t]? = some ((encS (xs.toArray[t / 2]!))[t % 2]!) := fun t ht => by
  have h2 := flat_inner (fun x cs h => k120_openM h) hr t ht
  rw [← htake2, List.getElem?_take, if_pos ht] at h2
  simpa using h2
 have hxj : xs.toArray[j]! = x := by
  have := (List.getElem?_eq_some_iff.1 hx).2
  simp [hj]
  exact this
 refine ⟨?_, ?_⟩
 · rw [blk_cell hg, hfl _ (by omega), show j * 2 / 2 = j by omega, show j * 2 % 2 = 0 by omega, hxj]
   rfl
 · rw [blk_cell hg, hfl _ (by omega), show (j * 2 + 1) / 2 = j by omega, show (j * 2 + 1) % 2 = 1 by omega, hxj]
   rfl
def MergedAt (w5 : World) (ys : List Sp) (k : Nat) (A2 : Option Addr) (c2 : Nat) (W : World) : Prop :=
 Kd.R k120 120 W w5.heap.size (fun _ => True) (.slice A2 (mergeS (ys.take k)).length c2) (mergeS (ys.take k)) ∧ Below w5.heap.size w5 W
theorem mergeS_len (l : List Sp) : ∀ k, (mergeS (l.take k)).length ≤ k := by
 intro k
 induction k with
 | zero => simp [mergeS]
 | succ k ih =>
  by_cases h : k < l.length
  · rw [List.take_succ_eq_append_getElem h, mergeS_snoc]
    rcases List.eq_nil_or_concat (mergeS (l.take k)) with h2 | ⟨p, y, h2⟩
    · rw [h2]
      simp [stepM]
    · rw [h2, List.concat_eq_append, stepM_snoc]
      rw [h2, List.concat_eq_append, List.length_append, List.length_singleton] at ih
      split <;> simp <;> omega
  · rw [List.take_of_length_le (by omega)]
    rw [List.take_of_length_le (by omega)] at ih
    omega
set_option maxHeartbeats 4000000 in
set_option maxRecDepth 100000 in
theorem runes_spans.calls (A0 : Option Addr) (c0 : Nat) (l0 : List Rg) (r : List Sp) (w : World) (hr0 : Kd.C k80 w A0 l0.length l0) (hc0 : l0.length ≤ c0) (h : runes_spans.f l0 = some r) :
 Calls Tryz.prog 91 #[.slice A0 l0.length c0] w fun e w' => ∃ v0_ : Value, e = .returned (v0_) ∧ Kd.R k120 120 w' w.heap.size (fun _ => True) v0_ r ∧ Below w.heap.size w w' := by
 have hok : okR l0 = true := by
  unfold runes_spans.f at h
  by_cases h1 : okR l0 = true
  · exact h1
  · rw [if_neg h1] at h
    cases h
 have hr : spansS l0 = r := by
  unfold runes_spans.f at h
  rw [if_pos hok] at h
  exact Option.some.inj h
 have hl : l0.length ≤ 1000000 := by
  unfold okR at hok
  simp only [Bool.and_eq_true, decide_eq_true_eq] at hok
  exact hok.1
 have HOK := Aside0.mk hok
 have HR := Aside0.mk hr
 have HC := Aside0.mk hr0
 clear h hok hr hr0
 go_enter Tryz.func91, Tryz.ntmps91
 go_wp2
 go_loopw [3, 13] (fun s i W => ∃ (k : Nat) (A1 : Option Addr) (c1 : Nat), i = .int .i64 k ∧ k ≤ l0.length ∧ s = .slice A1 (rawS (l0.take k)).length c1 ∧ Aside0 (KeptAt l0 w k A1 c1 W)) (fun _ i _ => l0.length - (intOf i).toNat)
 case atStart => exact ⟨0, none, 0, rfl, Nat.zero_le _, rfl, ⟨Kd.R_nil _ _ _ _ _, Below.refl _ _⟩⟩
 case round =>
  obtain ⟨k, A1, c1, rfl, hkl, rfl, HK⟩ := hrel
  by_cases hlt : k < l0.length
  · obtain ⟨g, o, rfl, _, hcell⟩ := rg_cells HC.out (by omega)
    obtain ⟨x, hx⟩ : ∃ x, l0[k]? = some x := ⟨_, List.getElem?_eq_getElem hlt⟩
    obtain ⟨x0, x1⟩ := hcell k x hx
    have y0 := (HK.out.2.cell (p := ⟨g, o + k * 2, none⟩) (blk_lt' x0)).trans x0
    have y1 := (HK.out.2.cell (p := ⟨g, o + k * 2 + 1, none⟩) (blk_lt' x1)).trans x1
    have HSN := Aside0.mk (rawS_snoc l0 k x hx)
    have HRL := Aside0.mk (rawS_take l0 k)
    clear hcell hx x0 x1
    obtain ⟨lo, hi⟩ := x
    dsimp only at y0 y1
    go_upto_region 5 with (fail)
    obtain ⟨w3, hw3⟩ : ∃ w3, wr.alloc (Obj.cells #[.int .i32 lo, .int .i32 hi] 80) = w3 := ⟨_, rfl⟩
    rw [hw3]
    obtain ⟨gb, hgb⟩ : ∃ gb, wr.heap.size = gb := ⟨_, rfl⟩
    rw [hgb]
    have hbox : w3.heap[gb]? = some (.cells #[.int .i32 lo, .int .i32 hi] 80 (0, 0)) := by rw [← hw3, ← hgb]; exact blk_new _ _
    have HBOX := Aside0.mk hbox
    have HB3 : Aside0 (Below w.heap.size w w3) := ⟨hw3 ▸ below_alloc HK.out.2 _⟩
    have HR3 : Aside0 (Kd.R k120 120 w3 w.heap.size (fun _ => True) (.slice A1 (rawS (l0.take k)).length c1) (rawS (l0.take k))) := ⟨hw3 ▸ Kd.R_alloc HK.out.1 _⟩
    obtain ⟨a, ha⟩ : ∃ a, numS lo = a := ⟨_, rfl⟩
    obtain ⟨b, hb⟩ : ∃ b, behS hi = b := ⟨_, rfl⟩
    have HNA : Aside0 (runes_number.f lo = some a) := ⟨by rw [num_f, ha]⟩
    have HNB : Aside0 (runes_behind.f hi = some b) := ⟨by rw [beh_f, hb]⟩
    have HKEEP : Aside0 (keepS ⟨lo, hi⟩ = if lo ≤ hi ∧ a < b then [⟨a, b⟩] else []) := ⟨by unfold keepS; rw [ha, hb]⟩
    clear hw3 hgb ha hb y0 y1 HK
    go_cut [6] (fun v6 W => ∃ g6 : Nat, v6 = .pointer (some ⟨g6, 0, none⟩) ∧ Aside0 (W.heap[g6]? = some (.cells #[.int .i64 a, .int .i64 b] 120 (0, 0)) ∧ Below w3.heap.size w3 W))
    case first =>
     have q0 : ∀ p : Later w3, p.wx.cell? ⟨gb, 0, none⟩ = some (.int .i32 lo) := fun p => cell_after p.below ((blk_cell hbox 0).trans rfl)
     have q1 : ∀ p : Later w3, p.wx.cell? ⟨gb, 1, none⟩ = some (.int .i32 hi) := fun p => cell_after p.below ((blk_cell hbox 1).trans rfl)
     have HLAT : Aside0 (Below w3.heap.size w3 w3.drew) := ⟨below_drew1 (Below.refl _ _)⟩
     clear hbox
     refine wp_region_held (S := fun w' => ∃ p : Later w3, w' = p.wx) (by kernel_rfl) ?_
     change wpAnyH _ _ _ _ _ _ _ _ (World.drew _)
     iterate 4 ((first | refine takeR (i := 0) (by decide +kernel) (by rfl) ?_ ?_ ?_ | refine takeR (i := 1) (by decide +kernel) (by rfl) ?_ ?_ ?_ | refine takeR (i := 3) (by decide +kernel) (by rfl) ?_ ?_ ?_ | refine takeR (i := 4) (by decide +kernel) (by rfl) ?_ ?_ ?_); (focus first | exact fun _ _ _ _ h => h | exact fun _ _ _ _ h => HPQ.out _ _ _ _ (by rfl) h); (focus exact ⟨⟨_, HLAT.out⟩, rfl⟩); intro K hK; go_simp; (with_reducible refine hK _ ?_); clear hK K)
     clear q0 q1
     refine hall2 (i := 2) (j := 7) (by kernel_rfl) (by rfl) (by rfl) (fun K hK => ?_) (fun K hK => ?_)
     · go_simp
       refine (runes_number.calls lo a _ HNA.out).mono ?_
       rintro e w4 ⟨rfl, hb4⟩
       have HLw4 : Aside0 (Below w3.heap.size w3 w4) := ⟨join_below HLAT.out hb4⟩
       clear hb4
       refine hK _ _ ⟨⟨_, HLw4.out⟩, rfl⟩ ?_
       clear hK K
       refine hall2 (i := 5) (j := 7) (by kernel_rfl) (by rfl) (by rfl) (fun K hK => ?_) (fun K hK => ?_)
       · go_simp
         refine (runes_behind.calls hi b _ HNB.out).mono ?_
         rintro e w5 ⟨rfl, hb4⟩
         have HLw5 : Aside0 (Below w3.heap.size w3 w5) := ⟨join_below HLw4.out hb4⟩
         clear hb4
         refine hK _ _ ⟨⟨_, HLw5.out⟩, rfl⟩ ?_
         clear hK K
         (refine takeR (i := 6) (by kernel_rfl) (by rfl) ?_ ?_ ?_; (focus first | exact fun _ _ _ _ h => h | exact fun _ _ _ _ h => HPQ.out _ _ _ _ (by rfl) h); (focus exact ⟨⟨_, HLw5.out⟩, rfl⟩); intro K hK; go_simp; (with_reducible refine hK _ ?_); clear hK K)
         refine hall1 (i := 7) (by kernel_rfl) (by rfl) (fun K hK => ?_)
         go_simp
         obtain ⟨wA, hwA⟩ : ∃ wA, w5.alloc (Obj.cells #[.int .i64 0, .int .i64 0] 120) = wA := ⟨_, rfl⟩
         rw [hwA]
         obtain ⟨g6, hg6⟩ : ∃ g6, w5.heap.size = g6 := ⟨_, rfl⟩
         rw [hg6]
         have HN6 : Aside0 (wA.heap[g6]? = some (.cells #[.int .i64 0, .int .i64 0] 120 (0, 0))) := ⟨by rw [← hwA, ← hg6]; exact blk_new _ _⟩
         have HLA : Aside0 (Below w3.heap.size w3 wA) := ⟨hwA ▸ below_alloc HLw5.out _⟩
         have HGE : Aside0 (w3.heap.size ≤ g6) := ⟨hg6 ▸ HLw5.out.size⟩
         clear hwA hg6
         refine hK _ _ ⟨⟨_, HLA.out⟩, rfl⟩ ?_
         clear hK K
         have c60 : wA.cell? ⟨g6, 0, none⟩ = some (.int .i64 0) := (blk_cell HN6.out 0).trans rfl
         have c61 : wA.cell? ⟨g6, 1, none⟩ = some (.int .i64 0) := (blk_cell HN6.out 1).trans rfl
         have f60 : wA.frozen? ⟨g6, 0, none⟩ = false := blk_frozen HN6.out 0
         have f61 : wA.frozen? ⟨g6, 1, none⟩ = false := blk_frozen HN6.out 1
         refine hall1 (i := 8) (by kernel_rfl) (by rfl) (fun K hK => ?_)
         go_simp
         have HLZ : Aside0 (Below w3.heap.size w3 ((wA.setCell ⟨g6, 0, none⟩ (.int .i64 a)).setCell ⟨g6, 1, none⟩ (.int .i64 b))) := ⟨(HLA.out.setCell (p := ⟨g6, 0, none⟩) HGE.out _).setCell (p := ⟨g6, 1, none⟩) HGE.out _⟩
         refine hK _ _ ⟨⟨_, HLZ.out⟩, rfl⟩ ?_
         clear hK K
         refine wpAnyH_done (by kernel_rfl) ?_ _
         clear c60 c61 f60 f61
         go_wp2
         go_meet
         case rel => exact ⟨g6, rfl, ⟨blk_put (blk_put HN6.out 0 _ rfl) 1 _ rfl, HLZ.out⟩⟩
       · go_simp
         obtain ⟨wA, hwA⟩ : ∃ wA, w4.alloc (Obj.cells #[.int .i64 0, .int .i64 0] 120) = wA := ⟨_, rfl⟩
         rw [hwA]
         obtain ⟨g6, hg6⟩ : ∃ g6, w4.heap.size = g6 := ⟨_, rfl⟩
         rw [hg6]
         have HN6 : Aside0 (wA.heap[g6]? = some (.cells #[.int .i64 0, .int .i64 0] 120 (0, 0))) := ⟨by rw [← hwA, ← hg6]; exact blk_new _ _⟩
         have HLA : Aside0 (Below w3.heap.size w3 wA) := ⟨hwA ▸ below_alloc HLw4.out _⟩
         have HGE : Aside0 (w3.heap.size ≤ g6) := ⟨hg6 ▸ HLw4.out.size⟩
         clear hwA hg6
         refine hK _ _ ⟨⟨_, HLA.out⟩, rfl⟩ ?_
         clear hK K
         refine hall1 (i := 5) (by kernel_rfl) (by rfl) (fun K hK => ?_)
         go_simp
         refine (runes_behind.calls hi b _ HNB.out).mono ?_
         rintro e w5 ⟨rfl, hb4⟩
         have HLw5 : Aside0 (Below w3.heap.size w3 w5) := ⟨join_below HLA.out hb4⟩
         have HN6 := Aside0.mk ((hb4.block g6 (blk_lt HN6.out)).trans HN6.out)
         clear hb4
         refine hK _ _ ⟨⟨_, HLw5.out⟩, rfl⟩ ?_
         clear hK K
         (refine takeR (i := 6) (by kernel_rfl) (by rfl) ?_ ?_ ?_; (focus first | exact fun _ _ _ _ h => h | exact fun _ _ _ _ h => HPQ.out _ _ _ _ (by rfl) h); (focus exact ⟨⟨_, HLw5.out⟩, rfl⟩); intro K hK; go_simp; (with_reducible refine hK _ ?_); clear hK K)
         have c60 : w5.cell? ⟨g6, 0, none⟩ = some (.int .i64 0) := (blk_cell HN6.out 0).trans rfl
         have c61 : w5.cell? ⟨g6, 1, none⟩ = some (.int .i64 0) := (blk_cell HN6.out 1).trans rfl
         have f60 : w5.frozen? ⟨g6, 0, none⟩ = false := blk_frozen HN6.out 0
         have f61 : w5.frozen? ⟨g6, 1, none⟩ = false := blk_frozen HN6.out 1
         refine hall1 (i := 8) (by kernel_rfl) (by rfl) (fun K hK => ?_)
         go_simp
         have HLZ : Aside0 (Below w3.heap.size w3 ((w5.setCell ⟨g6, 0, none⟩ (.int .i64 a)).setCell ⟨g6, 1, none⟩ (.int .i64 b))) := ⟨(HLw5.out.setCell (p := ⟨g6, 0, none⟩) HGE.out _).setCell (p := ⟨g6, 1, none⟩) HGE.out _⟩
         refine hK _ _ ⟨⟨_, HLZ.out⟩, rfl⟩ ?_
         clear hK K
         refine wpAnyH_done (by kernel_rfl) ?_ _
         clear c60 c61 f60 f61
         go_wp2
         go_meet
         case rel => exact ⟨g6, rfl, ⟨blk_put (blk_put HN6.out 0 _ rfl) 1 _ rfl, HLZ.out⟩⟩
     · go_simp
       obtain ⟨wA, hwA⟩ : ∃ wA, (w3.alloc (Obj.cells #[.int .i64 0, .int .i64 0] 120)).drew = wA := ⟨_, rfl⟩
       rw [hwA]
       obtain ⟨g6, hg6⟩ : ∃ g6, w3.heap.size = g6 := ⟨_, rfl⟩
       rw [hg6]
       have HN6 : Aside0 (wA.heap[g6]? = some (.cells #[.int .i64 0, .int .i64 0] 120 (0, 0))) := ⟨by rw [← hwA, ← hg6]; exact blk_new w3 _⟩
       have HLA : Aside0 (Below w3.heap.size w3 wA) := ⟨hwA ▸ below_drew1 (below1 w3 _)⟩
       have HGE : Aside0 (w3.heap.size ≤ g6) := ⟨Nat.le_of_eq hg6⟩
       clear hwA hg6
       refine hK _ _ ⟨⟨_, HLA.out⟩, rfl⟩ ?_
       clear hK K
       refine hall1 (i := 2) (by kernel_rfl) (by rfl) (fun K hK => ?_)
       go_simp
       refine (runes_number.calls lo a _ HNA.out).mono ?_
       rintro e w4 ⟨rfl, hb4⟩
       have HLw4 : Aside0 (Below w3.heap.size w3 w4) := ⟨join_below HLA.out hb4⟩
       have HN6 := Aside0.mk ((hb4.block g6 (blk_lt HN6.out)).trans HN6.out)
       clear hb4
       refine hK _ _ ⟨⟨_, HLw4.out⟩, rfl⟩ ?_
       clear hK K
       refine hall1 (i := 5) (by kernel_rfl) (by rfl) (fun K hK => ?_)
       go_simp
       refine (runes_behind.calls hi b _ HNB.out).mono ?_
       rintro e w5 ⟨rfl, hb4⟩
       have HLw5 : Aside0 (Below w3.heap.size w3 w5) := ⟨join_below HLw4.out hb4⟩
       have HN6 := Aside0.mk ((hb4.block g6 (blk_lt HN6.out)).trans HN6.out)
       clear hb4
       refine hK _ _ ⟨⟨_, HLw5.out⟩, rfl⟩ ?_
       clear hK K
       (refine takeR (i := 6) (by kernel_rfl) (by rfl) ?_ ?_ ?_; (focus first | exact fun _ _ _ _ h => h | exact fun _ _ _ _ h => HPQ.out _ _ _ _ (by rfl) h); (focus exact ⟨⟨_, HLw5.out⟩, rfl⟩); intro K hK; go_simp; (with_reducible refine hK _ ?_); clear hK K)
       have c60 : w5.cell? ⟨g6, 0, none⟩ = some (.int .i64 0) := (blk_cell HN6.out 0).trans rfl
       have c61 : w5.cell? ⟨g6, 1, none⟩ = some (.int .i64 0) := (blk_cell HN6.out 1).trans rfl
       have f60 : w5.frozen? ⟨g6, 0, none⟩ = false := blk_frozen HN6.out 0
       have f61 : w5.frozen? ⟨g6, 1, none⟩ = false := blk_frozen HN6.out 1
       refine hall1 (i := 8) (by kernel_rfl) (by rfl) (fun K hK => ?_)
       go_simp
       have HLZ : Aside0 (Below w3.heap.size w3 ((w5.setCell ⟨g6, 0, none⟩ (.int .i64 a)).setCell ⟨g6, 1, none⟩ (.int .i64 b))) := ⟨(HLw5.out.setCell (p := ⟨g6, 0, none⟩) HGE.out _).setCell (p := ⟨g6, 1, none⟩) HGE.out _⟩
       refine hK _ _ ⟨⟨_, HLZ.out⟩, rfl⟩ ?_
       clear hK K
       refine wpAnyH_done (by kernel_rfl) ?_ _
       clear c60 c61 f60 f61
       go_wp2
       go_meet
       case rel => exact ⟨g6, rfl, ⟨blk_put (blk_put HN6.out 0 _ rfl) 1 _ rfl, HLZ.out⟩⟩
    case rest =>
     obtain ⟨g6, rfl, HE⟩ := hcut
     have HBOX4 := Aside0.mk ((HE.out.2.block gb (blk_lt HBOX.out)).trans HBOX.out)
     have b0 : wc.cell? ⟨gb, 0, none⟩ = some (.int .i32 lo) := (blk_cell HBOX4.out 0).trans rfl
     have b1 : wc.cell? ⟨gb, 1, none⟩ = some (.int .i32 hi) := (blk_cell HBOX4.out 1).trans rfl
     have s0 : wc.cell? ⟨g6, 0, none⟩ = some (.int .i64 a) := (blk_cell HE.out.1 0).trans rfl
     have s1 : wc.cell? ⟨g6, 1, none⟩ = some (.int .i64 b) := (blk_cell HE.out.1 1).trans rfl
     have HB4 := Aside0.mk (join_below HB3.out HE.out.2)
     have HR4 := Aside0.mk (Kd.R_below HR3.out HE.out.2)
     clear hbox
     by_cases h1 : lo ≤ hi
     · by_cases h2 : a < b
       · have HK5 : Aside0 (rawS (l0.take (k + 1)) = rawS (l0.take k) ++ [⟨a, b⟩]) := ⟨by rw [HSN.out, HKEEP.out, if_pos ⟨h1, h2⟩]⟩
         go_wp2_with ((with_reducible refine gate_builtin (b := .append) (xs := #[.tmp 36, .tmp 38]) rfl ?_); refine R_append50 rfl (w0 := wc) w.heap.size rfl (.tmp 36) (.tmp 38) rfl A1 c1 (rawS (l0.take k)).length (rawS (l0.take k)) ⟨a, b⟩ rfl rfl rfl HR4.out (Below.refl _ _) HB4.out.size ?hl ?_; (case hl => have := HRL.out; omega); intro A5 c5 w5 hR5 hb5 hg5 hn5)
         go_roundw
         case rel => exact ⟨k + 1, A5, c5, by go_num, by omega, by rw [HK5.out]; simp, ⟨by unfold KeptAt; rw [HK5.out, List.length_append]; exact ⟨hR5, HB4.out.trans hb5⟩⟩⟩
         case measure => simp [intOf]; omega
       · have HK5 : Aside0 (rawS (l0.take (k + 1)) = rawS (l0.take k)) := ⟨by rw [HSN.out, HKEEP.out, if_neg (fun h => h2 h.2), List.append_nil]⟩
         go_wp2
         repeat (go_quiet (fail); try go_wp2)
         go_roundw
         case rel => exact ⟨k + 1, A1, c1, by go_num, by omega, by rw [HK5.out], ⟨by unfold KeptAt; rw [HK5.out]; exact ⟨HR4.out, HB4.out⟩⟩⟩
         case measure => simp [intOf]; omega
     · have HK5 : Aside0 (rawS (l0.take (k + 1)) = rawS (l0.take k)) := ⟨by rw [HSN.out, HKEEP.out, if_neg (fun h => h1 h.1), List.append_nil]⟩
       have hd1 : decide (lo ≤ hi) = false := decide_eq_false h1
       go_wp2
       repeat (go_quiet (fail); try go_wp2)
       go_roundw
       case rel => exact ⟨k + 1, A1, c1, by go_num, by omega, by rw [HK5.out], ⟨by unfold KeptAt; rw [HK5.out]; exact ⟨HR4.out, HB4.out⟩⟩⟩
       case measure => simp [intOf]; omega
  · have e : l0.take k = l0 := List.take_of_length_le (by omega)
    obtain ⟨hR1, hB1⟩ := HK.out
    have hxl : (rawS l0).length ≤ 1000000 := Nat.le_trans (rawS_len l0) hl
    rw [e] at hR1 ⊢
    have HFIN : Aside0 (∀ ys : List Sp, (∀ x, x ∈ ys ↔ x ∈ rawS l0) → (∀ i j (hi : i < j) (hj : j < ys.length), (ys[i]'(by omega)).1 ≤ ys[j].1) → mergeS ys = r ∧ ∀ x, x ∈ ys → 0 ≤ x.1 ∧ x.1 < x.2) := ⟨fun ys h1 h2 => ⟨(merge_any h1 h2 (rawS_valid HOK.out)).trans HR.out, fun x hx => rawS_valid HOK.out x ((h1 x).1 hx)⟩⟩
    obtain ⟨xs, hxs⟩ : ∃ xs, rawS l0 = xs := ⟨_, rfl⟩
    rw [hxs] at hR1 hxl HFIN ⊢
    have HR1 := Aside0.mk hR1
    have HB1 := Aside0.mk hB1
    clear e hR1 hB1 hxs HK HR HOK
    go_wp2_with fail
    refine (sort_any A1 xs c1 w.heap.size _ HR1.out (by omega)).mono ?_
    rintro e w5 ⟨rfl, ys, hyl, hym, hys, hR5, hb5⟩
    have HF := Aside0.mk (HFIN.out ys hym hys)
    have HM := Aside0.mk (merged_all ys hys HF.out.2)
    have HY5 : Aside0 (Kd.R k120 120 w5 w.heap.size (fun _ => True) (.slice A1 ys.length c1) ys) := ⟨by rw [hyl]; exact hR5⟩
    have HB5 := Aside0.mk (HB1.out.trans hb5)
    rw [← hyl]
    have hyb : ys.length ≤ 1000000 := by omega
    clear hyl hym hys hR5 hb5 HFIN HR1 HB1 hxl
    go_wp2_with fail
    go_loopw [7, 45] (fun v i W => ∃ (k : Nat) (A2 : Option Addr) (c2 : Nat), i = .int .i64 k ∧ k ≤ ys.length ∧ v = .slice A2 (mergeS (ys.take k)).length c2 ∧ Aside0 (MergedAt w5 ys k A2 c2 W)) (fun _ i _ => ys.length - (intOf i).toNat)
    case atStart => exact ⟨0, none, 0, rfl, Nat.zero_le _, rfl, ⟨Kd.R_nil _ _ _ _ _, Below.refl _ _⟩⟩
    case round =>
     obtain ⟨k, A2, c2, rfl, hkl, rfl, HK⟩ := hrel
     rename_i wr _
     by_cases hlt : k < ys.length
     · have hK := HK.out
       unfold MergedAt at hK
       obtain ⟨hKR, hKB⟩ := hK
       have HB := Aside0.mk hKB
       obtain ⟨x, hx⟩ : ∃ x, ys[k]? = some x := ⟨_, List.getElem?_eq_getElem hlt⟩
       obtain ⟨gy, rfl, _, _, hcy⟩ := sp_own HY5.out (by omega)
       obtain ⟨z0, z1⟩ := hcy k x hx
       have y0 := cell_after hKB z0
       have y1 := cell_after hKB z1
       have HSTEP : Aside0 (mergeS (ys.take (k + 1)) = stepM (mergeS (ys.take k)) x) := ⟨by rw [List.take_add_one, hx]; exact mergeS_snoc _ _⟩
       have HLEN := Aside0.mk (mergeS_len ys k)
       obtain ⟨O, hO⟩ : ∃ O, mergeS (ys.take k) = O := ⟨_, rfl⟩
       rw [hO] at hKR HSTEP HLEN ⊢
       obtain ⟨xa, xb⟩ := x
       dsimp only at y0 y1
       clear hKB hcy z0 z1 hx hO HK HM HF
       rcases List.eq_nil_or_concat O with rfl | ⟨p, y, rfl⟩
       · have HO : Aside0 (Kd.R k120 120 wr w5.heap.size (fun _ => True) (.slice A2 0 c2) []) := ⟨hKR⟩
         have HST2 : Aside0 (mergeS (ys.take (k + 1)) = [⟨xa, xb⟩]) := ⟨HSTEP.out⟩
         clear hKR HSTEP
         go_upto_region 15 with (fail)
         obtain ⟨w3, hw3⟩ : ∃ w3, wr.alloc (Obj.cells #[.int .i64 xa, .int .i64 xb] 120) = w3 := ⟨_, rfl⟩
         rw [hw3]
         obtain ⟨g9, hg9⟩ : ∃ g9, wr.heap.size = g9 := ⟨_, rfl⟩
         rw [hg9]
         have h9 : w3.heap[g9]? = some (.cells #[.int .i64 xa, .int .i64 xb] 120 (0, 0)) := by rw [← hw3, ← hg9]; exact blk_new _ _
         have c90 : w3.cell? ⟨g9, 0, none⟩ = some (.int .i64 xa) := (blk_cell h9 0).trans rfl
         have c91 : w3.cell? ⟨g9, 1, none⟩ = some (.int .i64 xb) := (blk_cell h9 1).trans rfl
         have HB3 : Aside0 (Below w5.heap.size w5 w3) := ⟨hw3 ▸ below_alloc HB.out _⟩
         have HO3 := Aside0.mk (show Kd.R k120 120 w3 w5.heap.size (fun _ => True) (.slice A2 0 c2) [] from hw3 ▸ Kd.R_alloc HO.out _)
         clear hw3 hg9 h9 y0 y1 HO HB
         go_quiet (fail)
         go_wp2_with ((with_reducible refine gate_builtin (b := .append) (xs := #[.tmp 78, .tmp 80]) rfl ?_); refine R_append50 rfl (w0 := w3.drewN nq) w5.heap.size rfl (.tmp 78) (.tmp 80) rfl A2 c2 0 [] ⟨xa, xb⟩ rfl rfl rfl (Kd.R_below HO3.out (pw_below_drewN (Below.refl _ _) _)) (Below.refl _ _) HB3.out.size ?hl2 ?_; (case hl2 => decide); intro A7 c7 w7 hR7 hb7 hg7 hn7)
         go_roundw
         case rel => exact ⟨k + 1, A7, c7, by go_num, by omega, by rw [HST2.out]; rfl, ⟨by unfold MergedAt; rw [HST2.out]; exact ⟨hR7, (pw_below_drewN HB3.out _).trans hb7⟩⟩⟩
         case measure => simp [intOf]; omega
       · obtain ⟨m, hm⟩ : ∃ m, p.length = m := ⟨_, rfl⟩
         have hlen : (p.concat y).length = m + 1 := by simp [hm]
         rw [hlen] at hKR HLEN ⊢
         rw [List.concat_eq_append] at hKR HSTEP
         have HO := Aside0.mk hKR
         obtain ⟨g2, rfl, hg2, ⟨cur, hcur⟩, hc2⟩ := sp_own hKR (by simp)
         have hy : (p ++ [y])[m]? = some y := by rw [← hm]; simp
         obtain ⟨_, v1⟩ := hc2 m y hy
         have hst := HSTEP.out
         rw [stepM_snoc] at hst
         obtain ⟨ya, yb⟩ := y
         dsimp only at v1 hst
         have HST := Aside0.mk hst
         have hmb : (m : Int) ≤ 1000000 := by have := HLEN.out; omega
         have hw0 : IntKind.i64.wrap (m : Int) = m := by rw [IntKind.wrap_i64]; omega
         have HM := Aside0.mk hm
         clear hKR HSTEP hc2 hy hst hlen hm
         go_upto_region 15 with (fail)
         obtain ⟨w3, hw3⟩ : ∃ w3, wr.alloc (Obj.cells #[.int .i64 xa, .int .i64 xb] 120) = w3 := ⟨_, rfl⟩
         rw [hw3]
         obtain ⟨g9, hg9⟩ : ∃ g9, wr.heap.size = g9 := ⟨_, rfl⟩
         rw [hg9]
         have h9 : w3.heap[g9]? = some (.cells #[.int .i64 xa, .int .i64 xb] 120 (0, 0)) := by rw [← hw3, ← hg9]; exact blk_new _ _
         have c90 : w3.cell? ⟨g9, 0, none⟩ = some (.int .i64 xa) := (blk_cell h9 0).trans rfl
         have c91 : w3.cell? ⟨g9, 1, none⟩ = some (.int .i64 xb) := (blk_cell h9 1).trans rfl
         have HB3 : Aside0 (Below w5.heap.size w5 w3) := ⟨hw3 ▸ below_alloc HB.out _⟩
         have HO3 := Aside0.mk (show Kd.R k120 120 w3 w5.heap.size (fun _ => True) (.slice (some ⟨g2, 0, none⟩) (m + 1) c2) (p ++ [⟨ya, yb⟩]) from hw3 ▸ Kd.R_alloc HO.out _)
         have v3 : w3.cell? ⟨g2, m * 2 + 1, none⟩ = some (.int .i64 yb) := by rw [← hw3]; exact cell_after (below1 _ _) v1
         have hcur3 : w3.heap[g2]? = some (.cells cur 120 (0, 0)) := by rw [← hw3]; exact ((below1 wr _).block g2 (blk_lt hcur)).trans hcur
         have HC3 := Aside0.mk hcur3
         clear hw3 hg9 h9 y0 y1 HO HB v1 hcur hcur3
         by_cases hxy : xa ≤ yb
         · have HST2 : Aside0 (mergeS (ys.take (k + 1)) = p ++ [⟨ya, max yb xb⟩]) := ⟨by have h := HST.out; rw [if_pos hxy] at h; exact h⟩
           go_quiet (fail)
           go_wp2_with fail
           obtain ⟨w4, hw4⟩ : ∃ w4, w3.drewN nq = w4 := ⟨_, rfl⟩
           rw [hw4]
           have u91 : w4.cell? ⟨g9, 1, none⟩ = some (.int .i64 xb) := by rw [← hw4]; simpa using c91
           have u3 : w4.cell? ⟨g2, m * 2 + 1, none⟩ = some (.int .i64 yb) := by rw [← hw4]; simpa using v3
           have hc4 : w4.heap[g2]? = some (.cells cur 120 (0, 0)) := by rw [← hw4]; exact HC3.out
           have f3 := blk_frozen hc4 (m * 2 + 1)
           have HB4 : Aside0 (Below w5.heap.size w5 w4) := ⟨hw4 ▸ pw_below_drewN HB3.out _⟩
           have HO4 : Aside0 (Kd.R k120 120 w4 w5.heap.size (fun _ => True) (.slice (some ⟨g2, 0, none⟩) (m + 1) c2) (p ++ [⟨ya, yb⟩])) := ⟨hw4 ▸ Kd.R_below HO3.out (pw_below_drewN (Below.refl _ _) _)⟩
           obtain ⟨g2', e2, _, _, hcc⟩ := sp_own HO4.out (by simp)
           injection e2 with e2
           injection e2 with e2
           subst e2
           obtain ⟨t0, t1⟩ := hcc m ⟨ya, yb⟩ (by rw [← HM.out]; simp)
           have t0' : w4.cell? ⟨g2, m * 2, none⟩ = some (.int .i64 ya) := t0
           clear t1 hcc hw4 c90 c91 v3
           have hlt1 : (m : Int) < (m : Int) + 1 := by omega
           have HSEG : Aside0 (Kd.R k120 120 (w4.setCell ⟨g2, m * 2 + 1, none⟩ (.int .i64 (max yb xb))) w5.heap.size (fun _ => True) (.slice (some ⟨g2, 0, none⟩) (m + 1) c2) (p ++ [⟨ya, max yb xb⟩])) := ⟨by
            have h := (Kd.R_seg HO4.out (m : Int) (by omega) (by omega) (c := [.int .i64 ya, .int .i64 yb]) (seg := [.int .i64 (max yb xb)]) (j := 1) rfl (fun j u hu => by
             rw [Int.toNat_natCast]
             match j, hu with
             | 0, hu => injection hu with hu; subst hu; exact t0'
             | 1, hu => injection hu with hu; subst hu; exact u3) (by show 1 + 1 ≤ 2; omega) (x' := ⟨ya, max yb xb⟩) (okp := fun _ => False) (k120_mkM _ _ _ _) (fun _ h => h.elim)).1
            rw [Int.toNat_natCast] at h
            have e : (p ++ [(⟨ya, yb⟩ : Sp)]).set m ⟨ya, max yb xb⟩ = p ++ [⟨ya, max yb xb⟩] := by
             rw [← HM.out, List.set_append_right _ _ (Nat.le_refl _), Nat.sub_self]
             rfl
            rw [e] at h
            exact h⟩
           have HBS : Aside0 (Below w5.heap.size w5 (w4.setCell ⟨g2, m * 2 + 1, none⟩ (.int .i64 (max yb xb)))) := ⟨HB4.out.setCell (p := ⟨g2, m * 2 + 1, none⟩) hg2 _⟩
           clear t0 t0'
           go_still_tail 14, (by kernel_rfl)
           change wpList _ _ _ _ _ w4.drew
           go_wp2
           go_roundw
           case rel => exact ⟨k + 1, some ⟨g2, 0, none⟩, c2, by go_num, by omega, by rw [HST2.out]; simp [HM.out], ⟨by unfold MergedAt; rw [HST2.out, show (p ++ [(⟨ya, max yb xb⟩ : Sp)]).length = m + 1 by simp [HM.out]]; first | exact ⟨HSEG.out, HBS.out⟩ | exact ⟨Kd.R_below HSEG.out (below_drew1 (Below.refl _ _)), below_drew1 HBS.out⟩⟩⟩
           case measure => simp [intOf]; omega
         · have HST2 : Aside0 (mergeS (ys.take (k + 1)) = p ++ [⟨ya, yb⟩] ++ [⟨xa, xb⟩]) := ⟨by have h := HST.out; rw [if_neg hxy] at h; exact h⟩
           go_quiet (fail)
           go_wp2_with ((with_reducible refine gate_builtin (b := .append) (xs := #[.tmp 78, .tmp 80]) rfl ?_); refine R_append50 rfl (w0 := w3.drewN nq) w5.heap.size rfl (.tmp 78) (.tmp 80) rfl (some ⟨g2, 0, none⟩) c2 (m + 1) (p ++ [⟨ya, yb⟩]) ⟨xa, xb⟩ rfl ?hn2 rfl (Kd.R_below HO3.out (pw_below_drewN (Below.refl _ _) _)) (Below.refl _ _) HB3.out.size ?hl3 ?_; (case hn2 => rw [List.length_append, HM.out]; rfl); (case hl3 => rw [List.length_append, HM.out]; show (m + 1 + 1) * 16 ≤ _; omega); intro A7 c7 w7 hR7 hb7 hg7 hn7)
           go_roundw
           case rel => exact ⟨k + 1, A7, c7, by go_num, by omega, by rw [HST2.out]; simp [HM.out], ⟨by unfold MergedAt; rw [HST2.out, show (p ++ [(⟨ya, yb⟩ : Sp)] ++ [(⟨xa, xb⟩ : Sp)]).length = m + 1 + 1 by simp [HM.out]]; exact ⟨hR7, (pw_below_drewN HB3.out _).trans hb7⟩⟩⟩
           case measure => simp [intOf]; omega
     · have e : ys.take k = ys := List.take_of_length_le (by omega)
       have hK := HK.out
       unfold MergedAt at hK
       rw [e] at hK ⊢
       rw [HF.out.1] at hK ⊢
       have HR9 := Aside0.mk hK.1
       have HB9 := Aside0.mk hK.2
       clear e hK HK HF HM
       go_wp2
       go_ret
       exact ⟨_, rfl, Kd.R_lower HR9.out (HB5.out.size), HB5.out.trans (HB9.out.mono HB5.out.size)⟩
end Go.Proofs.YthdfmbmbjpmlaaaGreatDoor.Rn
end
section
namespace Go.Proofs.YthdfmbmbjpmlaaaGreatDoor.Rn
open Go.RowKit Go.Proofs.YthdfmbmbjpmlaaaGreatDoorW.PrintWords Go.Proofs.YthdfmbmbjpmlaaaGreatDoorW.PrintLast Go.Proofs.YthdfmbmbjpmlaaaGreatDoorW.PrintMore
attribute [local go_sem] max2_int min2_int max_two min_two max_three min_three max_four min_four   -- for this text's walks alone
set_option linter.unusedVariables false
set_option linter.unusedSimpArgs false
def runes_Norm.f (k : Nat) (l0 : List (S80)) : Option ((List (S80))) := (runes_spans.f l0).bind fun t482 => ((runes_ranges.f k t482).bind fun t485 => (some t485))
theorem runes_Norm.mono : ∀ a0 k, LeO (runes_Norm.f k a0) (runes_Norm.f (k + 1) a0) := by
 intro a0 k
 unfold runes_Norm.f
 repeat' first
  | (with_reducible exact runes_ranges.mono _ _)
  | (with_reducible exact LeO.refl _)
  | (with_reducible exact LeO.none _)
  | (with_reducible refine LeO.ite ?_ ?_)
  | (with_reducible refine LeO.bind ?_ (fun _ => ?_))
  | exact runes_ranges.mono _ _
  | exact LeO.none _
  | refine LeO.ite ?_ ?_
  | refine LeO.bind ?_ (fun _ => ?_)
set_option maxHeartbeats 8000000 in
set_option maxRecDepth 100000 in
theorem runes_Norm.calls (k : Nat) (A0 : Option Addr) (c0 : Nat) (l0 : List (S80)) (r : List (S80)) (w : World) (hr0 : Kd.C k80 w A0 l0.length l0) (hc0 : l0.length ≤ c0) (h : runes_Norm.f k l0 = some r) :
 Calls Tryz.prog 86 #[.slice A0 l0.length c0] w fun e w' => ∃ v0_ : Value, e = .returned (v0_) ∧ Kd.R k80 80 w' w.heap.size (fun _ => True) v0_ r ∧ Below w.heap.size w w' := by
 have HR0 := Aside0.mk hr0
 have HC0 := Aside0.mk hc0
 clear hr0 hc0
 have HB := Aside0.mk (Below.refl w.heap.size w)
 have H : ((runes_spans.f l0).bind fun t482 => ((runes_ranges.f k t482).bind fun t485 => (some t485))) = some r := h
 clear h
 replace H := Option.bind_eq_some_iff.mp H
 obtain ⟨t482, A20, H⟩ := H
 replace H : ((runes_ranges.f k t482).bind fun t485 => (some t485)) = some r := H
 have A2 := Aside0.mk A20
 clear A20
 replace H := Option.bind_eq_some_iff.mp H
 obtain ⟨t485, A30, H⟩ := H
 replace H : (some t485) = some r := H
 have A3 := Aside0.mk A30
 clear A30
 obtain rfl := Option.some.inj H
 go_enter Tryz.func86, Tryz.ntmps86
 go_wp2_with (first | ((with_reducible refine gate_callee (f := 91) rfl ?_); refine goesL_ (some 4) rfl rfl Tryz.func91 (by kernel_rfl) rfl #[.slice A0 l0.length c0] rfl (by (try simp only [List.map_toArray, List.map_cons, List.map_nil]); first | done | rfl | (simp only [List.length_drop, List.length_take]; rfl)) ?_; (with_reducible refine (runes_spans.calls _ _ l0 t482 _ ?side1 ?side2 A2.out).mono ?_); (case side1 => repeat (first | exact HR0.out | (with_reducible refine Kd.C_alloc ?_ _) | (with_reducible refine Kd.C_drewN ?_ _) | (with_reducible refine Kd.C_drew ?_))); (case side2 => exact HC0.out); rintro e w4 ⟨v483, rfl, ho0, hb⟩; refine ⟨_, rfl, ?_⟩; have n0_ := Aside0.mk (Kd.R_lower ho0 (below_size (by repeat (first | (with_reducible first | exact HB.out | apply below_alloc | apply pw_below_drewN | apply below_drew1) | exact HB.out)))); have n1_ := Aside0.mk (below_step (by repeat (first | (with_reducible first | exact HB.out | apply below_alloc | apply pw_below_drewN | apply below_drew1) | exact HB.out)) hb); clear HB; have HO484 := n0_; have HB := n1_; clear n0_ n1_; (try clear hb); (try clear hb2); (try clear hk); (try clear hi); (try clear ho0); obtain ⟨Ao5, co5, eo5⟩ := Kd.R_slice HO484.out; subst eo5) | ((with_reducible refine gate_callee (f := 90) rfl ?_); refine goesL_ (some 5) rfl rfl Tryz.func90 (by kernel_rfl) rfl #[.slice Ao5 t482.length co5] rfl (by (try simp only [List.map_toArray, List.map_cons, List.map_nil]); first | done | rfl | (simp only [List.length_drop, List.length_take]; rfl)) ?_; (with_reducible refine (runes_ranges.calls k _ _ t482 t485 _ ?side1 ?side2 A3.out).mono ?_); (case side1 => repeat (first | exact (Kd.R_reads' HO484.out).2.2 | (with_reducible refine Kd.C_alloc ?_ _) | (with_reducible refine Kd.C_drewN ?_ _) | (with_reducible refine Kd.C_drew ?_))); (case side2 => exact (Kd.R_reads' HO484.out).2.1); rintro e w6 ⟨v486, rfl, ho0, hb⟩; refine ⟨_, rfl, ?_⟩; have n0_ := Aside0.mk (Kd.R_below (by (with_reducible repeat (first | apply Kd.R_alloc | apply Kd.R_drewN | apply Kd.R_drew)); exact HO484.out) hb); have n1_ := Aside0.mk (Kd.R_lower ho0 (below_size (by repeat (first | (with_reducible first | exact HB.out | apply below_alloc | apply pw_below_drewN | apply below_drew1) | exact HB.out)))); have n2_ := Aside0.mk (below_step (by repeat (first | (with_reducible first | exact HB.out | apply below_alloc | apply pw_below_drewN | apply below_drew1) | exact HB.out)) hb); clear HO484; clear HB; have HO484 := n0_; have HO487 := n1_; have HB := n2_; clear n0_ n1_ n2_; (try clear hb); (try clear hb2); (try clear hk); (try clear hi); (try clear ho0)))
 go_ret
 exact ⟨_, by first | rfl | (simp [errW_none, errW_some] <;> rfl) | (simp [*, errW_none, errW_some] <;> rfl), by (with_reducible repeat (first | apply Kd.R_alloc | apply Kd.R_drewN | apply Kd.R_drew)); exact HO487.out, by repeat (first | (with_reducible first | exact HB.out | apply below_alloc | apply pw_below_drewN | apply below_drew1) | exact HB.out)⟩
def runes_May.f (k : Nat) (l0 : List (S80)) : Option (Bool) := (runes_Norm.f k l0).bind fun t488 => ((api_Range.f k l0 t488).bind fun t491 => (some t491))
theorem runes_May.mono : ∀ a0 k, LeO (runes_May.f k a0) (runes_May.f (k + 1) a0) := by
 intro a0 k
 unfold runes_May.f
 repeat' first
  | (with_reducible exact api_Range.mono _ _ _)
  | (with_reducible exact runes_Norm.mono _ _)
  | (with_reducible exact LeO.refl _)
  | (with_reducible exact LeO.none _)
  | (with_reducible refine LeO.ite ?_ ?_)
  | (with_reducible refine LeO.bind ?_ (fun _ => ?_))
  | exact api_Range.mono _ _ _
  | exact runes_Norm.mono _ _
  | exact LeO.none _
  | refine LeO.ite ?_ ?_
  | refine LeO.bind ?_ (fun _ => ?_)
set_option maxHeartbeats 8000000 in
set_option maxRecDepth 100000 in
theorem runes_May.calls (k : Nat) (A0 : Option Addr) (c0 : Nat) (l0 : List (S80)) (r : Bool) (w : World) (hr0 : Kd.C k80 w A0 l0.length l0) (hc0 : l0.length ≤ c0) (h : runes_May.f k l0 = some r) :
 Calls Tryz.prog 80 #[.slice A0 l0.length c0] w fun e w' => e = .returned (.bool r) ∧ Below w.heap.size w w' := by
 have HR0 := Aside0.mk hr0
 have HC0 := Aside0.mk hc0
 clear hr0 hc0
 have HB := Aside0.mk (Below.refl w.heap.size w)
 have H : ((runes_Norm.f k l0).bind fun t488 => ((api_Range.f k l0 t488).bind fun t491 => (some t491))) = some r := h
 clear h
 replace H := Option.bind_eq_some_iff.mp H
 obtain ⟨t488, A20, H⟩ := H
 replace H : ((api_Range.f k l0 t488).bind fun t491 => (some t491)) = some r := H
 have A2 := Aside0.mk A20
 clear A20
 replace H := Option.bind_eq_some_iff.mp H
 obtain ⟨t491, A30, H⟩ := H
 replace H : (some t491) = some r := H
 have A3 := Aside0.mk A30
 clear A30
 obtain rfl := Option.some.inj H
 go_enter Tryz.func80, Tryz.ntmps80
 go_wp2_with (first | ((with_reducible refine gate_callee (f := 86) rfl ?_); refine goesL_ (some 5) rfl rfl Tryz.func86 (by kernel_rfl) rfl #[.slice A0 l0.length c0] rfl (by (try simp only [List.map_toArray, List.map_cons, List.map_nil]); first | done | rfl | (simp only [List.length_drop, List.length_take]; rfl)) ?_; (with_reducible refine (runes_Norm.calls k _ _ l0 t488 _ ?side1 ?side2 A2.out).mono ?_); (case side1 => repeat (first | exact HR0.out | (with_reducible refine Kd.C_alloc ?_ _) | (with_reducible refine Kd.C_drewN ?_ _) | (with_reducible refine Kd.C_drew ?_))); (case side2 => exact HC0.out); rintro e w4 ⟨v489, rfl, ho0, hb⟩; refine ⟨_, rfl, ?_⟩; have n0_ := Aside0.mk (Kd.R_lower ho0 (below_size (by repeat (first | (with_reducible first | exact HB.out | apply below_alloc | apply pw_below_drewN | apply below_drew1) | exact HB.out)))); have n1_ := Aside0.mk (below_step (by repeat (first | (with_reducible first | exact HB.out | apply below_alloc | apply pw_below_drewN | apply below_drew1) | exact HB.out)) hb); clear HB; have HO490 := n0_; have HB := n1_; clear n0_ n1_; (try clear hb); (try clear hb2); (try clear hk); (try clear hi); (try clear ho0); obtain ⟨Ao5, co5, eo5⟩ := Kd.R_slice HO490.out; subst eo5) | ((with_reducible refine gate_callee (f := 58) rfl ?_); refine goesL_ (some 6) rfl rfl Tryz.func58 (by kernel_rfl) rfl #[.slice A0 l0.length c0, .slice Ao5 t488.length co5] rfl (by (try simp only [List.map_toArray, List.map_cons, List.map_nil]); first | done | rfl | (simp only [List.length_drop, List.length_take]; rfl)) ?_; (with_reducible refine (api_Range.calls k _ _ l0 _ _ t488 t491 _ ?side1 ?side2 ?side3 ?side4 A3.out).mono ?_); (case side1 => repeat (first | exact (Kd.C_below HR0.out HB.out) | (with_reducible refine Kd.C_alloc ?_ _) | (with_reducible refine Kd.C_drewN ?_ _) | (with_reducible refine Kd.C_drew ?_))); (case side2 => exact HC0.out); (case side3 => repeat (first | exact (Kd.R_reads' HO490.out).2.2 | (with_reducible refine Kd.C_alloc ?_ _) | (with_reducible refine Kd.C_drewN ?_ _) | (with_reducible refine Kd.C_drew ?_))); (case side4 => exact (Kd.R_reads' HO490.out).2.1); rintro e w' ⟨rfl, ⟨nd, rfl⟩⟩; refine ⟨_, rfl, ?_⟩))
 go_ret
 exact ⟨by first | rfl | (simp [errW_none, errW_some] <;> rfl) | (simp [*, errW_none, errW_some] <;> rfl), by repeat (first | (with_reducible first | exact HB.out | apply below_alloc | apply pw_below_drewN | apply below_drew1) | exact HB.out)⟩
end Go.Proofs.YthdfmbmbjpmlaaaGreatDoor.Rn
end
section
set_option linter.unusedVariables false
set_option linter.unusedSimpArgs false
namespace Go.Proofs.YthdfmbmbjpmlaaaGreatDoor.Rn
open Go Go.RowKit Go.Proofs.YthdfmbmbjpmlaaaGreatDoorW.PrintWords Go.Proofs.YthdfmbmbjpmlaaaGreatDoorW.PrintLast Go.Proofs.YthdfmbmbjpmlaaaGreatDoorW.PrintMore
def valS (n : Int) : Int := (runes_value.f n).getD 0
theorem val_f (n : Int) : runes_value.f n = some (valS n) := by
 unfold valS runes_value.f
 by_cases h : n < 55296
 · simp only [if_pos h, Option.getD_some]
 · simp only [if_neg h, Option.getD_some]
def rgS (x : Sp) : Rg := ⟨valS x.f0, valS (wrap64 (x.f1 - 1))⟩
theorem ranges_l (L : List Sp) (hL : L.length ≤ 2000000) (d : Nat) : ∀ (k i : Nat), i ≤ L.length → L.length - i = d → d < k → runes_ranges.l0 k ((L.take i).map rgS) L (L.length : Int) (i : Int) = some (L.map rgS) := by
 induction d with
 | zero =>
  intro k i h1 h2 hk
  obtain ⟨k, rfl⟩ : ∃ m, k = m + 1 := ⟨k - 1, by omega⟩
  simp only [runes_ranges.l0]
  rw [if_neg (by omega), List.take_of_length_le (by omega)]
 | succ d ih =>
  intro k i h1 h2 hk
  obtain ⟨k, rfl⟩ : ∃ m, k = m + 1 := ⟨k - 1, by omega⟩
  have hi : i < L.length := by omega
  simp only [runes_ranges.l0]
  rw [if_pos (by omega), if_pos (by omega), if_pos (by omega), val_f]
  simp only [Option.bind_some]
  rw [val_f]
  simp only [Option.bind_some]
  rw [if_pos (by rw [List.length_map, List.length_take]; omega)]
  have e1 : rd_T120 L (i : Int) = L[i] := by
   unfold rd_T120
   rw [Int.toNat_natCast, List.getD_eq_getElem?_getD, List.getElem?_eq_getElem hi]
   rfl
  have e2 : wrap64 ((i : Int) + 1) = ((i + 1 : Nat) : Int) := by unfold wrap64; omega
  rw [e1, e2]
  have e3 : (L.take i).map rgS ++ [(⟨valS L[i].f0, valS (wrap64 (L[i].f1 - 1))⟩ : Rg)] = (L.take (i + 1)).map rgS := by
   rw [List.take_succ_eq_append_getElem hi, List.map_append]
   rfl
  rw [e3]
  exact ih k (i + 1) (by omega) (by omega) (by omega)
theorem spansS_len (l : List Rg) : (spansS l).length ≤ l.length := by
 unfold spansS nfS
 have h := mergeS_len (sortS (rawS l)) (sortS (rawS l)).length
 rw [List.take_length] at h
 have h2 : ∀ m : List Sp, (sortS m).length = m.length := fun m => by
  induction m with
  | nil => rfl
  | cons x m ih =>
   have h3 : ∀ (y : Sp) (q : List Sp), (insS y q).length = q.length + 1 := fun y q => by
    induction q with
    | nil => rfl
    | cons z q ih2 =>
     unfold insS
     split
     · rfl
     · simp [ih2]
   rw [sortS, h3, ih, List.length_cons]
 rw [h2] at h
 have := rawS_len l
 omega
def normS (l : List Rg) : List Rg := (spansS l).map rgS
theorem norm_f (l : List Rg) (h : okR l = true) : runes_Norm.f (l.length + 1) l = some (normS l) := by
 have h1 : runes_spans.f l = some (spansS l) := by unfold runes_spans.f; rw [if_pos h]
 have hl : (spansS l).length ≤ l.length := spansS_len l
 have hl2 : l.length ≤ 1000000 := by
  unfold okR at h
  simp only [Bool.and_eq_true, decide_eq_true_eq] at h
  exact h.1
 have h2 : runes_ranges.f (l.length + 1) (spansS l) = some ((spansS l).map rgS) := ranges_l (spansS l) (by omega) (spansS l).length (l.length + 1) 0 (by omega) (by omega) (by omega)
 unfold runes_Norm.f
 rw [h1, Option.bind_some, h2]
 rfl
end Go.Proofs.YthdfmbmbjpmlaaaGreatDoor.Rn
end
section
set_option linter.unusedVariables false
set_option linter.unusedSimpArgs false
namespace Go.Proofs.YthdfmbmbjpmlaaaGreatDoor.Rn
open Go Go.RowKit Go.Proofs.YthdfmbmbjpmlaaaGreatDoorW.PrintWords Go.Proofs.YthdfmbmbjpmlaaaGreatDoorW.PrintLast Go.Proofs.YthdfmbmbjpmlaaaGreatDoorW.PrintMore
theorem rg_ext {x y : Rg} (h0 : x.f0 = y.f0) (h1 : x.f1 = y.f1) : x = y := by
 cases x
 cases y
 simp_all
def eqS : List Rg → List Rg → Bool
 | [], [] => true
 | x :: l, y :: m => (x.f0 == y.f0) && (x.f1 == y.f1) && eqS l m
 | _, _ => false
theorem eqS_iff : ∀ l m : List Rg, eqS l m = true ↔ l = m
 | [], [] => by simp [eqS]
 | [], _ :: _ => by simp [eqS]
 | _ :: _, [] => by simp [eqS]
 | x :: l, y :: m => by
  simp only [eqS, Bool.and_eq_true, beq_iff_eq, eqS_iff l m, List.cons.injEq]
  constructor
  · rintro ⟨⟨h0, h1⟩, h2⟩
    exact ⟨rg_ext h0 h1, h2⟩
  · rintro ⟨rfl, h2⟩
    exact ⟨⟨rfl, rfl⟩, h2⟩
theorem rd_rg (l : List Rg) (i : Nat) (hi : i < l.length) : rd_T80 l (i : Int) = l[i] := by
 unfold rd_T80
 rw [Int.toNat_natCast, List.getD_eq_getElem?_getD, List.getElem?_eq_getElem hi]
 rfl
theorem same_l (l m : List Rg) (hlm : l.length = m.length) (hl : l.length ≤ 1000000) (d : Nat) : ∀ (k i : Nat), i ≤ l.length → l.length - i = d → d < k → api_Range.l0 k l m (l.length : Int) (i : Int) = some (eqS (l.drop i) (m.drop i)) := by
 induction d with
 | zero =>
  intro k i h1 h2 hk
  obtain ⟨k, rfl⟩ : ∃ m, k = m + 1 := ⟨k - 1, by omega⟩
  simp only [api_Range.l0]
  rw [if_neg (by omega), List.drop_of_length_le (by omega), List.drop_of_length_le (by omega)]
  rfl
 | succ d ih =>
  intro k i h1 h2 hk
  obtain ⟨k, rfl⟩ : ∃ m, k = m + 1 := ⟨k - 1, by omega⟩
  have hi : i < l.length := by omega
  have hj : i < m.length := by omega
  simp only [api_Range.l0]
  have e2 : wrap64 ((i : Int) + 1) = ((i + 1 : Nat) : Int) := by unfold wrap64; omega
  have hi2 := ih k (i + 1) (by omega) (by omega) (by omega)
  rw [if_pos (by omega), if_pos (by omega), if_pos (by omega), if_pos (by omega), rd_rg l i hi, rd_rg m i hj, List.drop_eq_getElem_cons hi, List.drop_eq_getElem_cons hj, e2, hi2]
  obtain ⟨x, hx⟩ : ∃ x, l[i] = x := ⟨_, rfl⟩
  obtain ⟨y, hy⟩ : ∃ y, m[i] = y := ⟨_, rfl⟩
  rw [hx, hy]
  clear hx hy hi2 ih e2 h1 h2 hk hi hj
  simp only [eqS]
  by_cases h0 : x.f0 = y.f0
  · by_cases h3 : x.f1 = y.f1
    · rw [if_neg (by simp [h0, h3])]
      simp [h0, h3]
    · rw [if_pos (by simp [h0, h3])]
      simp [h0, h3]
  · rw [if_pos (by simp [h0])]
    simp [h0]
theorem eqS_len : ∀ l m : List Rg, l.length ≠ m.length → eqS l m = false := fun l m h => by
 cases e : eqS l m
 · rfl
 · exact absurd (congrArg List.length ((eqS_iff l m).1 e)) h
theorem equal_f (l m : List Rg) (hl : l.length ≤ 1000000) (k : Nat) (hk : l.length < k) : api_Range.f k l m = some (eqS l m) := by
 unfold api_Range.f
 by_cases h : l.length = m.length
 · rw [if_pos (by omega)]
   exact same_l l m h hl l.length k 0 (by omega) (by omega) hk
 · rw [if_neg (by omega), eqS_len l m h]
theorem okR_len {l : List Rg} (h : okR l = true) : l.length ≤ 1000000 := by
 unfold okR at h
 simp only [Bool.and_eq_true, decide_eq_true_eq] at h
 exact h.1
theorem norm_fk (l : List Rg) (h : okR l = true) (k : Nat) (hk : l.length < k) : runes_Norm.f k l = some (normS l) := at_rounds (fun k => runes_Norm.mono l k) (Nat.succ_le_of_lt hk) (norm_f l h)
theorem may_f (l : List Rg) (h : okR l = true) (k : Nat) (hk : l.length < k) : runes_May.f k l = some (eqS l (normS l)) := by
 unfold runes_May.f
 rw [norm_fk l h k hk, Option.bind_some, equal_f l _ (okR_len h) k hk]
 rfl
end Go.Proofs.YthdfmbmbjpmlaaaGreatDoor.Rn
end
section
set_option linter.unusedVariables false
set_option linter.unusedSimpArgs false
namespace Go.Proofs.YthdfmbmbjpmlaaaGreatDoor.Rn
open Go Go.RowKit Go.Proofs.YthdfmbmbjpmlaaaGreatDoorW.PrintWords Go.Proofs.YthdfmbmbjpmlaaaGreatDoorW.PrintLast Go.Proofs.YthdfmbmbjpmlaaaGreatDoorW.PrintMore
set_option maxHeartbeats 1000000 in
set_option maxRecDepth 100000 in
theorem may_index (xs : List S38) (A : Option Addr) (c : Nat)  (I J : Nat → World → Prop) (w0 w : World) (hC : k38.C w0 A xs.length xs) (hB : ∀ i W, I i W → Below w0.heap.size w0 W)
 (hstep : ∀ i x cs W, xs[i]? = some x → I i W → k38.K w0 x cs → Calls Tryz.prog 79 #[.agg cs.toArray] W (CbPost (J i) (I (i + 1)))) (h0 : I 0 w) :
 Calls Tryz.prog 85 #[.slice A xs.length c, .func (.func 79) #[] #[]] w (IdxPost xs.length I J) := by
 have hl : xs.length ≤ 9223372036854775807 := hC.2.1
 have HC := Aside0.mk hC
 have HB := Aside0.mk hB
 have HS := Aside0.mk hstep
 have H0 := Aside0.mk h0
 clear hC hB hstep h0
 go_enter Tryz.func85, Tryz.ntmps85
 go_wp2
 go_loopw [8] (fun i W => ∃ k : Nat, i = .int .i64 k ∧ k ≤ xs.length ∧ Aside0 (I k W)) (fun i _ => xs.length - (intOf i).toNat)
 case atStart => exact ⟨0, rfl, Nat.zero_le _, H0⟩
 case round =>
  obtain ⟨k, rfl, hkl, HI⟩ := hrel
  by_cases hlt : k < xs.length
  · obtain ⟨g, o, rfl, _, hcell⟩ := row_cells HC.out (by omega) (by decide)
    obtain ⟨x, hx⟩ : ∃ x, xs[k]? = some x := ⟨_, List.getElem?_eq_getElem hlt⟩
    obtain ⟨cs, hcl, hK, hcc⟩ := hcell k x hx
    have HK := Aside0.mk hK
    obtain ⟨A1, c1, A2, c2, rfl, l1, g1, l2, g2⟩ := k38_open hK
    have y0 := cell_after (HB.out k _ HI.out) (hcc 0 (.int .i64 x.f0) rfl)
    rw [Nat.add_zero] at y0
    have y1 := cell_after (HB.out k _ HI.out) (hcc 1 (.slice A1 x.f1.length c1) rfl)
    have y2 := cell_after (HB.out k _ HI.out) (hcc 2 (.slice A2 x.f2.length c2) rfl)
    simp only [show k38.sz = 3 from rfl] at y0 y1 y2
    have HX := Aside0.mk hx
    clear hcell hcc hx hK hcl
    go_wp2_with fail
    refine (HS.out k x _ _ HX.out HI.out HK.out).mono ?_
    rintro e w2 hp
    rcases hp with ⟨rfl, hj⟩ | ⟨rfl, hi⟩
    · have HJ := Aside0.mk hj
      clear hj
      go_wp2
      go_ret
      exact Or.inl ⟨k, hlt, rfl, HJ.out⟩
    · have HI2 := Aside0.mk hi
      clear hi
      go_wp2
      go_roundw
      case rel => exact ⟨k + 1, by go_num, by omega, HI2⟩
      case measure => simp [intOf]; omega
  · obtain ⟨n, hn⟩ : ∃ n, xs.length = n := ⟨_, rfl⟩
    have e : k = xs.length := by omega
    have HI2 : Aside0 (I xs.length _) := ⟨e ▸ HI.out⟩
    clear e hn n
    go_wp2
    go_ret
    exact Or.inr ⟨rfl, HI2.out⟩
set_option maxHeartbeats 1000000 in
theorem may_contains (xs : List S38) (A : Option Addr) (c : Nat)  (I J : Nat → World → Prop) (w0 w : World) (hC : k38.C w0 A xs.length xs) (hB : ∀ i W, I i W → Below w0.heap.size w0 W)
 (hstep : ∀ i x cs W, xs[i]? = some x → I i W → k38.K w0 x cs → Calls Tryz.prog 79 #[.agg cs.toArray] W (CbPost (J i) (I (i + 1)))) (h0 : I 0 w) :
 Calls Tryz.prog 76 #[.slice A xs.length c, .func (.func 79) #[] #[]] w (ConPost xs.length I J) := by
 have hl : xs.length ≤ 9223372036854775807 := hC.2.1
 have HC := Aside0.mk hC
 have HB := Aside0.mk hB
 have HS := Aside0.mk hstep
 have H0 := Aside0.mk h0
 clear hC hB hstep h0
 go_enter Tryz.func76, Tryz.ntmps76
 go_wp2_with fail
 refine (may_index xs A c  I J w0 _ HC.out HB.out HS.out H0.out).mono ?_
 rintro e w2 hp
 rcases hp with ⟨i, hi, rfl, hj⟩ | ⟨rfl, hi⟩
 · have HJ := Aside0.mk hj
   have h0 : (0 : Int) ≤ (i : Int) := by omega
   clear hj
   go_wp2
   go_ret
   exact Or.inl ⟨rfl, i, hi, HJ.out⟩
 · have HI := Aside0.mk hi
   clear hi
   go_wp2
   go_ret
   exact Or.inr ⟨rfl, HI.out⟩
def partsS (a : Int) : Int := if a = 0 ∨ a = 1 ∨ a = 2 then 0 else if a = 3 ∨ a = 4 then 2 else if a = 5 then 1 else -1
theorem parts_f (a : Int) : regex_parts.f 5 a = some (partsS a) := by
 unfold regex_parts.f partsS
 by_cases h0 : a = 0
 · subst h0; rfl
 by_cases h1 : a = 1
 · subst h1; rfl
 by_cases h2 : a = 2
 · subst h2; rfl
 by_cases h3 : a = 3
 · subst h3; rfl
 by_cases h4 : a = 4
 · subst h4; rfl
 by_cases h5 : a = 5
 · subst h5; rfl
 simp [h0, h1, h2, h3, h4, h5, regex_parts.j0, regex_parts.j1]
def rgOk (l : List Rg) : Bool := l.all (fun x => decide (-2147483648 ≤ x.f0) && decide (x.f0 < 2147483648) && decide (-2147483648 ≤ x.f1) && decide (x.f1 < 2147483648))
theorem okR_of {l : List Rg} (h : rgOk l = true) (hl : l.length ≤ 1000000) : okR l = true := by
 unfold okR
 rw [decide_eq_true hl, Bool.true_and]
 exact h
def ownS (k : Int) (s : List Rg) : Bool := if k = 2 then decide (1 ≤ (s.length : Int)) && decide ((s.length : Int) ≤ 20) && eqS s (normS s) else ((s.length : Int) == 0)
mutual
/-- runes are runes -/
def okT : Re → Bool
 | ⟨_, s, l⟩ => rgOk s && okL l
def okL : List Re → Bool
 | [] => true
 | x :: l => okT x && okL l
end
mutual
/-- each node is as1 its kind is -/
def mayR : Re → Bool
 | ⟨k, s, l⟩ => decide ((l.length : Int) = partsS k) && mayL l && ownS k s
def mayL : List Re → Bool
 | [] => true
 | x :: l => mayR x && mayL l
end
theorem okL_mem : ∀ {l : List Re}, okL l = true → ∀ x, x ∈ l → okT x = true
 | y :: l, h, x, hx => by
  simp only [okL, Bool.and_eq_true] at h
  rcases List.mem_cons.1 hx with rfl | hx
  · exact h.1
  · exact okL_mem h.2 x hx
theorem mayL_append (b : List Re) : ∀ a : List Re, mayL (a ++ b) = (mayL a && mayL b)
 | [] => by simp only [List.nil_append, mayL, Bool.true_and]
 | x :: a => by simp only [List.cons_append, mayL, mayL_append b a, Bool.and_assoc]
theorem mayL_snoc {l : List Re} {k : Nat} {x : Re} (hx : l[k]? = some x) (h : mayL (l.take k) = true) : mayL (l.take (k + 1)) = mayR x := by
 rw [List.take_add_one, hx, mayL_append, h]
 simp only [Option.toList_some, mayL, Bool.true_and, Bool.and_true]
theorem mayL_front {l : List Re} {k : Nat} (h : mayL (l.take k) = false) : mayL l = false := by
 have e := mayL_append (l.drop k) (l.take k)
 rw [List.take_append_drop, h, Bool.false_and] at e
 exact e
def MayC (x : Re) : Prop := ∀ (w0 W : World) (cs : List Value), Below w0.heap.size w0 W → kRe.K w0 x cs → Calls Tryz.prog 68 #[.agg cs.toArray] W fun e W' => e = .returned (.bool (mayR x)) ∧ Below W.heap.size W W'
set_option maxHeartbeats 1000000 in
theorem may_part {x : Re} (hx : MayC x) (w0 W : World) (cs : List Value) (hB : Below w0.heap.size w0 W) (hK : kRe.K w0 x cs) :
 Calls Tryz.prog 79 #[.agg cs.toArray] W fun e W' => e = .returned (.bool (!mayR x)) ∧ Below W.heap.size W W' := by
 have HX := Aside0.mk hx
 have HK := Aside0.mk hK
 obtain ⟨A1, c1, A2, c2, rfl, _, _, _, _⟩ := k38_open hK
 have HB : Aside0 (∀ o, Below w0.heap.size w0 (W.alloc o)) := ⟨fun o => below_alloc hB o⟩
 clear hK hx hB
 go_enter Tryz.func79, Tryz.ntmps79
 go_wp2_with fail
 refine (HX.out w0 _ _ (HB.out _) HK.out).mono ?_
 rintro e w2 ⟨rfl, hb⟩
 have HB2 := Aside0.mk (join_below (below1 W _) hb)
 clear hb
 go_wp2
 go_ret
 exact ⟨rfl, HB2.out⟩
theorem may_parts (x : Re) (hx : ∀ y, y ∈ x.f2 → MayC y) (w0 Wb : World) (A : Option Addr) (c : Nat) (hC : kRe.C w0 A x.f2.length x.f2) (hB : Below w0.heap.size w0 Wb) :
 Calls Tryz.prog 76 #[.slice A x.f2.length c, .func (.func 79) #[] #[]] Wb fun e W' => e = .returned (.bool (!mayL x.f2)) ∧ Below Wb.heap.size Wb W' := by
 have hj : ∀ W, Below Wb.heap.size Wb W → Below w0.heap.size w0 W := fun W h => hB.trans (h.mono hB.size)
 refine (may_contains x.f2 A c (fun i W => Below Wb.heap.size Wb W ∧ mayL (x.f2.take i) = true) (fun _ W => Below Wb.heap.size Wb W ∧ mayL x.f2 = false) w0 Wb hC (fun i W h => hj W h.1) (fun i y cs W hy hI hK => ?_) ⟨Below.refl _ _, rfl⟩).mono ?_
 · have hs := mayL_snoc hy hI.2
   refine (may_part (hx y (List.mem_of_getElem? hy)) w0 W cs (hj W hI.1) hK).mono ?_
   rintro e W2 ⟨rfl, hb2⟩
   have hb3 := join_below hI.1 hb2
   cases hb : mayR y
   · exact Or.inl ⟨rfl, hb3, mayL_front (hs.trans hb)⟩
   · exact Or.inr ⟨rfl, hb3, hs.trans hb⟩
 · rintro e W2 hp
   rcases hp with ⟨rfl, _, _, hb, hm⟩ | ⟨rfl, hb, hm⟩
   · exact ⟨by rw [hm]; rfl, hb⟩
   · rw [List.take_length] at hm
     exact ⟨by rw [hm]; rfl, hb⟩
set_option maxHeartbeats 2000000 in
set_option maxRecDepth 100000 in
theorem may_go (x : Re) (hx : ∀ y, y ∈ x.f2 → MayC y) (hok : rgOk x.f1 = true) : MayC x := by
 intro w0 W cs hB hK
 obtain ⟨A1, p1, A2, p2, rfl, hp1, hC1, _, hC2⟩ := k38_open hK
 have e1 : mayR x = (decide ((x.f2.length : Int) = partsS x.f0) && mayL x.f2 && ownS x.f0 x.f1) := by
  cases x
  rfl
 obtain ⟨w1, hw1⟩ : ∃ w1, W.alloc (.cells #[.int .i64 x.f0, .slice A1 x.f1.length p1, .slice A2 x.f2.length p2] 38) = w1 := ⟨_, rfl⟩
 have hnew : w1.heap[W.heap.size]? = some (.cells #[.int .i64 x.f0, .slice A1 x.f1.length p1, .slice A2 x.f2.length p2] 38 (0, 0)) := by rw [← hw1]; exact blk_new _ _
 have hB1 : Below W.heap.size W w1 := hw1 ▸ below1 W _
 have hB01 : Below w0.heap.size w0 w1 := hB.trans (hB1.mono hB.size)
 have q0 : ∀ p : Later w1, p.wx.cell? ⟨W.heap.size, 0, none⟩ = some (.int .i64 x.f0) := fun p => cell_after p.below ((blk_cell hnew 0).trans rfl)
 have q1 : ∀ p : Later w1, p.wx.cell? ⟨W.heap.size, 1, none⟩ = some (.slice A1 x.f1.length p1) := fun p => cell_after p.below ((blk_cell hnew 1).trans rfl)
 have q2 : ∀ p : Later w1, p.wx.cell? ⟨W.heap.size, 2, none⟩ = some (.slice A2 x.f2.length p2) := fun p => cell_after p.below ((blk_cell hnew 2).trans rfl)
 have HC1 : Aside0 (∀ W', Below w1.heap.size w1 W' → Kd.C k80 W' A1 x.f1.length x.f1) := ⟨fun W' hb => Kd.C_below (Kd.C_below hC1 hB01) hb⟩
 have HC2 := Aside0.mk hC2
 have HX := Aside0.mk hx
 have HB1 := Aside0.mk hB1
 have HB01 := Aside0.mk hB01
 have HP1 := Aside0.mk hp1
 have HLAT : Aside0 (Below w1.heap.size w1 w1.drew) := ⟨below_drew1 (Below.refl _ _)⟩
 have HE := Aside0.mk e1
 have HN := Aside0.mk hnew
 clear hK hx hB hC1 hC2 hB1 hB01 hp1 e1 hnew
 obtain ⟨b, hb⟩ : ∃ b, mayR x = b := ⟨_, rfl⟩
 rw [hb]
 have HQ := Aside0.mk hb
 clear hb
 have ret : ∀ v w', mayR x = v → Below W.heap.size W w' → (Ending.returned (.bool v) = Ending.returned (.bool b) ∧ Below W.heap.size W w') := fun v w' h1 h2 => ⟨by rw [← HQ.out, h1], h2⟩
 have RET := Aside0.mk ret
 clear ret
 by_cases c : (x.f2.length : Int) = partsS x.f0
 · have hne : ((x.f2.length : Int) != partsS x.f0) = false := bne_eq_false_iff_eq.2 c
   have HE2 : Aside0 (mayR x = (mayL x.f2 && ownS x.f0 x.f1)) := ⟨by rw [HE.out, decide_eq_true c, Bool.true_and]⟩
   clear c HE
   go_enter Tryz.func68, Tryz.ntmps68
   go_wp2
   clear hw1
   have hund : undef = Value.tuple #[] := rfl
   refine wp_region_held (S := fun w' => ∃ p : Later w1, w' = p.wx) (by kernel_rfl) ?_
   change wpAnyH _ _ _ _ _ _ _ _ (World.drew _)
   iterate 5 ((first | refine takeR (i := 0) (by decide +kernel) (by rfl) ?_ ?_ ?_ | refine takeR (i := 1) (by decide +kernel) (by rfl) ?_ ?_ ?_ | refine takeR (i := 2) (by decide +kernel) (by rfl) ?_ ?_ ?_ | refine takeR (i := 3) (by decide +kernel) (by rfl) ?_ ?_ ?_ | refine takeR (i := 4) (by decide +kernel) (by rfl) ?_ ?_ ?_); (focus first | exact fun _ _ _ _ h => h | exact fun _ _ _ _ h => HPQ.out _ _ _ _ (by rfl) h); (focus exact ⟨⟨_, HLAT.out⟩, rfl⟩); intro K hK; go_simp; (with_reducible refine hK _ ?_); clear hK K)
   refine hall1 (i := 5) (by kernel_rfl) (by rfl) (fun K hK => ?_)
   go_simp
   refine (regex_parts.calls 5 x.f0 (partsS x.f0) _ (parts_f _)).mono ?_
   rintro e u1 ⟨rfl, hd⟩
   have HU1 : Aside0 (Below w1.heap.size w1 u1) := ⟨join_below HLAT.out hd.below⟩
   clear hd
   refine hK _ _ ⟨⟨_, HU1.out⟩, rfl⟩ ?_
   clear hK K
   iterate 4 ((first | refine takeR (i := 6) (by decide +kernel) (by rfl) ?_ ?_ ?_ | refine takeR (i := 7) (by decide +kernel) (by rfl) ?_ ?_ ?_ | refine takeR (i := 8) (by decide +kernel) (by rfl) ?_ ?_ ?_ | refine takeR (i := 9) (by decide +kernel) (by rfl) ?_ ?_ ?_); (focus first | exact fun _ _ _ _ h => h | exact fun _ _ _ _ h => HPQ.out _ _ _ _ (by rfl) h); (focus exact ⟨⟨_, HU1.out⟩, rfl⟩); intro K hK; go_simp; (with_reducible refine hK _ ?_); clear hK K)
   refine hall1 (i := 10) (by kernel_rfl) (by rfl) (fun K hK => ?_)
   go_simp
   refine (may_parts x HX.out w0 _ A2 p2 HC2.out (HB01.out.trans (HU1.out.mono HB01.out.size))).mono ?_
   rintro e u2 ⟨rfl, hd⟩
   have HU2 : Aside0 (Below w1.heap.size w1 u2) := ⟨join_below HU1.out hd⟩
   clear hd HU1
   refine hK _ _ ⟨⟨_, HU2.out⟩, rfl⟩ ?_
   clear hK K
   have z0 : u2.cell? ⟨W.heap.size, 0, none⟩ = some (.int .i64 x.f0) := q0 ⟨u2, HU2.out⟩
   have z1 : u2.cell? ⟨W.heap.size, 1, none⟩ = some (.slice A1 x.f1.length p1) := q1 ⟨u2, HU2.out⟩
   have HB2 : Aside0 (Below W.heap.size W u2) := ⟨join_below HB1.out HU2.out⟩
   have HC1' := Aside0.mk (HC1.out u2 HU2.out)
   cases hm : mayL x.f2
   · have HR : Aside0 (mayR x = false) := ⟨by rw [HE2.out, hm]; rfl⟩
     clear hm
     (refine takeR (i := 11) (by kernel_rfl) (by rfl) ?_ ?_ ?_; (focus first | exact fun _ _ _ _ h => h | exact fun _ _ _ _ h => HPQ.out _ _ _ _ (by rfl) h); (focus exact ⟨⟨_, HU2.out⟩, rfl⟩); intro K hK; go_simp; (with_reducible refine hK _ ?_); clear hK K)
     refine wpAnyH_done (by kernel_rfl) ?_ _
     clear q0 q1 q2
     go_wp2
     go_ret
     exact RET.out _ _ HR.out HB2.out
   · have HR : Aside0 (mayR x = ownS x.f0 x.f1) := ⟨by rw [HE2.out, hm]; rfl⟩
     clear hm
     (refine takeR (i := 11) (by kernel_rfl) (by rfl) ?_ ?_ ?_; (focus first | exact fun _ _ _ _ h => h | exact fun _ _ _ _ h => HPQ.out _ _ _ _ (by rfl) h); (focus exact ⟨⟨_, HU2.out⟩, rfl⟩); intro K hK; go_simp; (with_reducible refine hK _ ?_); clear hK K)
     refine wpAnyH_done (by kernel_rfl) ?_ _
     clear q0 q1 q2
     by_cases k2 : x.f0 = 2
     · have k2b : (x.f0 != 2) = false := bne_eq_false_iff_eq.2 k2
       by_cases k3 : 1 ≤ (x.f1.length : Int)
       · by_cases k4 : (x.f1.length : Int) ≤ 20
         · have HO : Aside0 (ownS x.f0 x.f1 = eqS x.f1 (normS x.f1)) := ⟨by unfold ownS; rw [if_pos k2, decide_eq_true k3, decide_eq_true k4]; rfl⟩
           have hokR : okR x.f1 = true := okR_of hok (by omega)
           have HM := Aside0.mk (may_f x.f1 hokR 30 (by omega))
           clear k2 hokR
           go_wp2_with fail
           refine (runes_May.calls 30 A1 p1 x.f1 _ _ HC1'.out HP1.out HM.out).mono ?_
           rintro e u3 ⟨rfl, hb⟩
           have HB3 := Aside0.mk (join_below HB2.out hb)
           clear hb
           go_wp2
           go_ret
           exact RET.out _ _ (HR.out.trans HO.out) HB3.out
         · have HO : Aside0 (ownS x.f0 x.f1 = false) := ⟨by unfold ownS; rw [if_pos k2, decide_eq_false k4, Bool.and_false, Bool.false_and]⟩
           have k4b : decide ((x.f1.length : Int) ≤ 20) = false := decide_eq_false k4
           have k4c : decide (x.f1.length ≤ 20) = false := decide_eq_false (by omega)
           clear k2 k4
           go_wp2
           go_ret
           exact RET.out _ _ (HR.out.trans HO.out) HB2.out
       · have HO : Aside0 (ownS x.f0 x.f1 = false) := ⟨by unfold ownS; rw [if_pos k2, decide_eq_false k3, Bool.false_and, Bool.false_and]⟩
         have k3b : decide (1 ≤ (x.f1.length : Int)) = false := decide_eq_false k3
         have k3c : decide (1 ≤ x.f1.length) = false := decide_eq_false (by omega)
         clear k2 k3
         go_wp2
         go_ret
         exact RET.out _ _ (HR.out.trans HO.out) HB2.out
     · have k2b : (x.f0 != 2) = true := bne_iff_ne.2 k2
       have HO : Aside0 (ownS x.f0 x.f1 = ((x.f1.length : Int) == 0)) := ⟨by unfold ownS; rw [if_neg k2]⟩
       clear k2
       go_wp2
       go_ret
       exact RET.out _ _ (HR.out.trans HO.out) HB2.out
 · have hne : ((x.f2.length : Int) != partsS x.f0) = true := bne_iff_ne.2 c
   have HR : Aside0 (mayR x = false) := ⟨by rw [HE.out, decide_eq_false c]; rfl⟩
   clear c
   go_enter Tryz.func68, Tryz.ntmps68
   go_wp2
   clear hw1
   have hund : undef = Value.tuple #[] := rfl
   refine wp_region_held (S := fun w' => ∃ p : Later w1, w' = p.wx) (by kernel_rfl) ?_
   change wpAnyH _ _ _ _ _ _ _ _ (World.drew _)
   iterate 5 ((first | refine takeR (i := 0) (by decide +kernel) (by rfl) ?_ ?_ ?_ | refine takeR (i := 1) (by decide +kernel) (by rfl) ?_ ?_ ?_ | refine takeR (i := 2) (by decide +kernel) (by rfl) ?_ ?_ ?_ | refine takeR (i := 3) (by decide +kernel) (by rfl) ?_ ?_ ?_ | refine takeR (i := 4) (by decide +kernel) (by rfl) ?_ ?_ ?_); (focus first | exact fun _ _ _ _ h => h | exact fun _ _ _ _ h => HPQ.out _ _ _ _ (by rfl) h); (focus exact ⟨⟨_, HLAT.out⟩, rfl⟩); intro K hK; go_simp; (with_reducible refine hK _ ?_); clear hK K)
   refine hall1 (i := 5) (by kernel_rfl) (by rfl) (fun K hK => ?_)
   go_simp
   refine (regex_parts.calls 5 x.f0 (partsS x.f0) _ (parts_f _)).mono ?_
   rintro e u1 ⟨rfl, hd⟩
   have HU1 : Aside0 (Below w1.heap.size w1 u1) := ⟨join_below HLAT.out hd.below⟩
   clear hd
   refine hK _ _ ⟨⟨_, HU1.out⟩, rfl⟩ ?_
   clear hK K
   iterate 6 ((first | refine takeR (i := 6) (by decide +kernel) (by rfl) ?_ ?_ ?_ | refine takeR (i := 7) (by decide +kernel) (by rfl) ?_ ?_ ?_ | refine takeR (i := 8) (by decide +kernel) (by rfl) ?_ ?_ ?_ | refine takeR (i := 9) (by decide +kernel) (by rfl) ?_ ?_ ?_ | refine takeR (i := 10) (by decide +kernel) (by rfl) ?_ ?_ ?_ | refine takeR (i := 11) (by decide +kernel) (by rfl) ?_ ?_ ?_); (focus first | exact fun _ _ _ _ h => h | exact fun _ _ _ _ h => HPQ.out _ _ _ _ (by rfl) h); (focus exact ⟨⟨_, HU1.out⟩, rfl⟩); intro K hK; go_simp; (with_reducible refine hK _ ?_); clear hK K)
   refine wpAnyH_done (by kernel_rfl) ?_ _
   go_wp2
   go_ret
   exact RET.out _ _ HR.out (join_below HB1.out HU1.out)
theorem may_all : ∀ (N : Nat) (x : Re), SizeOf.sizeOf x < N → okT x = true → MayC x
 | 0, x, h, _ => absurd h (Nat.not_lt_zero _)
 | N + 1, x, h, hok => by
  have ho : rgOk x.f1 = true ∧ okL x.f2 = true := by
   cases x
   simpa only [okT, Bool.and_eq_true] using hok
  exact may_go x (fun y hy => may_all N y (by
   have h1 := List.sizeOf_lt_of_mem hy
   have h2 : SizeOf.sizeOf x.f2 < SizeOf.sizeOf x := by
    cases x
    simp
    omega
   omega) (okL_mem ho.2 y hy)) ho.1
def regex_may.f (a0 : Int) (l1 : List Rg) (l2 : List Re) : Option Bool := if okT ⟨a0, l1, l2⟩ = true then some (mayR ⟨a0, l1, l2⟩) else none
theorem regex_may.calls (a0_0 : Int) (A0_1 : Option Addr) (c0_1 : Nat) (l0_1 : List Rg) (A0_2 : Option Addr) (c0_2 : Nat) (l0_2 : List Re) (r : Bool) (w : World) (hr0_1 : Kd.C k80 w A0_1 l0_1.length l0_1) (hc0_1 : l0_1.length ≤ c0_1) (hr0_2 : Kd.C k38 w A0_2 l0_2.length l0_2) (hc0_2 : l0_2.length ≤ c0_2) (h : regex_may.f a0_0 l0_1 l0_2 = some r) :
 Calls Tryz.prog 68 #[.agg #[.int .i64 a0_0, .slice A0_1 l0_1.length c0_1, .slice A0_2 l0_2.length c0_2]] w fun e w' => e = .returned (.bool r) ∧ Below w.heap.size w w' := by
 have hok : okT ⟨a0_0, l0_1, l0_2⟩ = true := by
  unfold regex_may.f at h
  by_cases c : okT ⟨a0_0, l0_1, l0_2⟩ = true
  · exact c
  · rw [if_neg c] at h
    cases h
 have hr : mayR ⟨a0_0, l0_1, l0_2⟩ = r := by
  unfold regex_may.f at h
  rw [if_pos hok] at h
  exact Option.some.inj h
 rw [← hr]
 exact may_all _ ⟨a0_0, l0_1, l0_2⟩ (Nat.lt_succ_self _) hok w w _ (Below.refl _ _) (k38_mk w ⟨a0_0, l0_1, l0_2⟩ hc0_1 hr0_1 hc0_2 hr0_2)
end Go.Proofs.YthdfmbmbjpmlaaaGreatDoor.Rn
end
