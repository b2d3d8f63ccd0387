/- texts of this claim, one behind the other. -/
import Derived.Test.YthdfmbmbjpmlaaaDoorMGPa
import Derived.Test.YthdfmbmbjpmlaaaDoorMGPd
import Derived.Test.YthdfmbmbjpmlaaaDoorMGPb
import Derived.Test.YthdfmbmbjpmlaaaDoorMGPc
section
namespace Go.Proofs.YthdfmbmbjpmlaaaDoor.Rn
open Go.RowKit Go.Proofs.YthdfmbmbjpmlaaaDoorW.PrintWords Go.Proofs.YthdfmbmbjpmlaaaDoorW.PrintLast Go.Proofs.YthdfmbmbjpmlaaaDoorW.PrintMore
attribute [local go_sem] max2_int min2_int max_two min_two max_three min_three max_four min_four   -- for this text's walks alone
set_option linter.unusedVariables false
set_option linter.unusedSimpArgs false
mutual
def goboref11_CountPat.l0 : Nat → Int → Int → Int → Int → List ByteArray → List ByteArray → List (S37) → Option (Int × Int)
 | 0, _, _, _, _, _, _, _ => none
 | k + 1, x4, x5, x6, x245000, x245001, x245002, x245003 => if x6 < (x245003.length : Int) then (if x4 < 2000 then (if 0 ≤ x6 then ((goboref11_CountPat.f k ((rd_T37 x245003 x6).f0) ((rd_T37 x245003 x6).f1) ((rd_T37 x245003 x6).f2) ((rd_T37 x245003 x6).f3)).bind fun bt246 => (goboref11_CountPat.l0 k (wrap64 (x4 + bt246.1)) (mx x5 bt246.2) (wrap64 (x6 + 1)) x245000 x245001 x245002 x245003)) else (none)) else (some (x4, wrap64 (x5 + 1)))) else (some (x4, wrap64 (x5 + 1)))
def goboref11_CountPat.f : Nat → Int → List ByteArray → List ByteArray → List (S37) → Option (Int × Int)
 | 0, _, _, _, _ => none
 | k + 1, a0_0, l0_1, l0_2, l0_3 => goboref11_CountPat.l0 k 1 0 0 a0_0 l0_1 l0_2 l0_3
end
theorem goboref11_CountPat.mono_l : ∀ k, (∀ y0 y1 y2 y3, LeO (goboref11_CountPat.f k y0 y1 y2 y3) (goboref11_CountPat.f (k + 1) y0 y1 y2 y3)) ∧ (∀ y0 y1 y2 y3 y4 y5 y6, LeO (goboref11_CountPat.l0 k y0 y1 y2 y3 y4 y5 y6) (goboref11_CountPat.l0 (k + 1) y0 y1 y2 y3 y4 y5 y6))
 | 0 => ⟨fun _ _ _ _ r h => by simp [goboref11_CountPat.f] at h, fun _ _ _ _ _ _ _ r h => by simp [goboref11_CountPat.l0] at h⟩
 | k + 1 => by
  obtain ⟨ih0, ih1⟩ := goboref11_CountPat.mono_l k
  refine ⟨?_, ?_⟩
  · intro y0 y1 y2 y3
    unfold goboref11_CountPat.f
    repeat' first
    | (with_reducible exact ih0 _ _ _ _)
    | (with_reducible exact ih1 _ _ _ _ _ _ _)
    | (with_reducible exact LeO.refl _)
    | (with_reducible exact LeO.none _)
    | (with_reducible refine LeO.ite ?_ ?_)
    | (with_reducible refine LeO.bind ?_ (fun _ => ?_))
    | exact ih0 _ _ _ _
    | exact ih1 _ _ _ _ _ _ _
    | exact LeO.none _
    | refine LeO.ite ?_ ?_
    | refine LeO.bind ?_ (fun _ => ?_)
  · intro y0 y1 y2 y3 y4 y5 y6
    unfold goboref11_CountPat.l0
    repeat' first
    | (with_reducible exact ih0 _ _ _ _)
    | (with_reducible exact ih1 _ _ _ _ _ _ _)
    | (with_reducible exact LeO.refl _)
    | (with_reducible exact LeO.none _)
    | (with_reducible refine LeO.ite ?_ ?_)
    | (with_reducible refine LeO.bind ?_ (fun _ => ?_))
    | exact ih0 _ _ _ _
    | exact ih1 _ _ _ _ _ _ _
    | exact LeO.none _
    | refine LeO.ite ?_ ?_
    | refine LeO.bind ?_ (fun _ => ?_)
theorem goboref11_CountPat.mono : ∀ a0 a1 a2 a3 k, LeO (goboref11_CountPat.f k a0 a1 a2 a3) (goboref11_CountPat.f (k + 1) a0 a1 a2 a3) := by
 intro a0 a1 a2 a3 k
 obtain ⟨ih0, ih1⟩ := goboref11_CountPat.mono_l k
 exact ih0 a0 a1 a2 a3
set_option maxHeartbeats 8000000 in
set_option maxRecDepth 100000 in
theorem goboref11_CountPat.calls (k : Nat) : ∀ (a0_0 : Int) (A0_1 : Option Addr) (c0_1 : Nat) (l0_1 : List ByteArray) (A0_2 : Option Addr) (c0_2 : Nat) (l0_2 : List ByteArray) (A0_3 : Option Addr) (c0_3 : Nat) (l0_3 : List (S37)) (r1 : Int) (r2 : Int) (w : World) (hr0_1 : Kd.C Kd.string w A0_1 l0_1.length l0_1) (hc0_1 : l0_1.length ≤ c0_1) (hr0_2 : Kd.C Kd.string w A0_2 l0_2.length l0_2) (hc0_2 : l0_2.length ≤ c0_2) (hr0_3 : Kd.C k37 w A0_3 l0_3.length l0_3) (hc0_3 : l0_3.length ≤ c0_3) (h : goboref11_CountPat.f k a0_0 l0_1 l0_2 l0_3 = some (r1, r2)),
 Calls Tryd.prog 10 #[.agg #[.int .i64 a0_0, .slice A0_1 l0_1.length c0_1, .slice A0_2 l0_2.length c0_2, .slice A0_3 l0_3.length c0_3]] w fun e w' => e = .returned (.tuple #[.int .i64 r1, .int .i64 r2]) ∧ Below w.heap.size w w' := by
 induction k using Nat.strongRecOn with
 | _ k ih =>
 intro a0_0 A0_1 c0_1 l0_1 A0_2 c0_2 l0_2 A0_3 c0_3 l0_3 r1 r2 w hr0_1 hc0_1 hr0_2 hc0_2 hr0_3 hc0_3 h
 cases k with
 | zero => exact absurd h (by simp [goboref11_CountPat.f])
 | succ k =>
 simp only [goboref11_CountPat.f] at h
 have hu37 := Tryd.underlying37
 have HR0_1 := Aside0.mk hr0_1
 have HC0_1 := Aside0.mk hc0_1
 clear hr0_1 hc0_1
 have HR0_2 := Aside0.mk hr0_2
 have HC0_2 := Aside0.mk hc0_2
 clear hr0_2 hc0_2
 have HR0_3 := Aside0.mk hr0_3
 have HC0_3 := Aside0.mk hc0_3
 clear hr0_3 hc0_3
 have HB := Aside0.mk (Below.refl w.heap.size w)
 have H : (goboref11_CountPat.l0 k 1 0 0 a0_0 l0_1 l0_2 l0_3) = some (r1, r2) := h
 clear h
 have H' := Aside0.mk H
 clear H
 go_enter Tryd.func10, Tryd.ntmps10
 go_wp2_with (first | ((with_reducible refine gate_dst (N := 1) rfl ?_); refine box_event ?hg (N := 1) ?hd (cs := #[.int .i64 a0_0, .slice A0_1 l0_1.length c0_1, .slice A0_2 l0_2.length c0_2, .slice A0_3 l0_3.length c0_3]) (t := 37) ?hr ?_; (case hd => rfl); (case hg => rfl); (case hr => first | (go_simp; done) | (go_simp; rfl)); intro gb244 hg w2 hbox hb; have n0_ := Aside0.mk (below_step (by repeat (first | (with_reducible first | exact HB.out | apply below_alloc | apply pw_below_drewN | apply below_drew1) | exact HB.out)) hb); have n1_ := Aside0.mk (hbox); have n2_ := Aside0.mk ((by rw [hg]; exact (below_size (by repeat (first | (with_reducible first | exact HB.out | apply below_alloc | apply pw_below_drewN | apply below_drew1) | exact HB.out))) : w.heap.size ≤ gb244)); have n3_ := Aside0.mk ((by rw [hg]; exact (below_size (by repeat (first | (with_reducible first | exact HB.out | apply below_alloc | apply pw_below_drewN | apply below_drew1) | exact HB.out))) : w.heap.size ≤ gb244)); clear HB; have HB := n0_; have BK244 := n1_; have GW244 := n2_; have GE244 := n3_; clear n0_ n1_ n2_ n3_; clear hb hbox hg))
 go_loopg [4, 5, 6] k (fun kq v4 v5 v6 w' => ∃ (x4_1 : Int) (x5_1 : Int) (x6_1 : Int), v4 = .int .i64 x4_1 ∧ v5 = .int .i64 x5_1 ∧ v6 = .int .i64 x6_1 ∧ Aside0 (goboref11_CountPat.l0 kq x4_1 x5_1 x6_1 a0_0 l0_1 l0_2 l0_3 = some (r1, r2)) ∧ Aside0 (kq ≤ k) ∧ Aside0 (w'.heap[gb244]? = some (.cells #[.int .i64 a0_0, (.slice A0_1 l0_1.length c0_1), (.slice A0_2 l0_2.length c0_2), (.slice A0_3 l0_3.length c0_3)] 37 (0, 0))) ∧ Aside0 (Below w.heap.size w w'))
 case atStart => exact ⟨(1), (0), (0), (by first | rfl | (simp; done) | (simp [*]; done)), (by first | rfl | (simp; done) | (simp [*]; done)), (by first | rfl | (simp; done) | (simp [*]; done)), H', ⟨Nat.le_refl _⟩, ⟨by (with_reducible repeat (first | refine blk_drewN ?_ _ | refine blk_drew ?_ | refine blk_alloc ?_ _)); exact BK244.out⟩, ⟨by repeat (first | (with_reducible first | exact HB.out | apply below_alloc | apply pw_below_drewN | apply below_drew1 | refine below_set ?_ GE244.out) | exact HB.out)⟩⟩
 case round =>
  clear H'
  try clear c1
  try clear p2
  obtain ⟨x4_1, x5_1, x6_1, rfl, rfl, rfl, HA, HK1, BK244, HB⟩ := hrel
  cases gk with
  | zero => exact absurd HA.out (by simp [goboref11_CountPat.l0])
  | succ k1 =>
   have H := HA.out
   clear HA
   simp only [goboref11_CountPat.l0] at H
   by_cases c3 : x6_1 < (l0_3.length : Int)
   · rw [if_pos c3] at H
     have c3b0 : decide (x6_1 < (l0_3.length : Int)) = true := decide_eq_true c3
     clear c3
     by_cases c4 : x4_1 < 2000
     · rw [if_pos c4] at H
       have c4b0 : decide (x4_1 < 2000) = true := decide_eq_true c4
       clear c4
       by_cases c5 : 0 ≤ x6_1
       · rw [if_pos c5] at H
         have c5b0 : decide (0 ≤ x6_1) = true := decide_eq_true c5
         clear c5
         replace H := Option.bind_eq_some_iff.mp H
         obtain ⟨⟨t246, t247⟩, A60, H⟩ := H
         replace H : (goboref11_CountPat.l0 k1 (wrap64 (x4_1 + t246)) (mx x5_1 t247) (wrap64 (x6_1 + 1)) a0_0 l0_1 l0_2 l0_3) = some (r1, r2) := H
         have A6 := Aside0.mk A60
         clear A60
         obtain ⟨ji7, hji7⟩ : ∃ j_ : Int, (mx x5_1 t247) = j_ := ⟨_, rfl⟩
         replace H : (goboref11_CountPat.l0 k1 (wrap64 (x4_1 + t246)) ji7 (wrap64 (x6_1 + 1)) a0_0 l0_1 l0_2 l0_3) = some (r1, r2) := by first | (rw [hji7] at H; exact H) | (simp only [hji7] at H ⊢; exact H)
         (try rw [hji7] at A6)
         have hji7_ : (if x5_1 < t247 then t247 else x5_1) = ji7 := hji7
         have H' := Aside0.mk H
         clear H
         have hcz8_0 : wr.cell? ⟨gb244, 0, none⟩ = some (.int .i64 a0_0) := (blk_cell BK244.out 0).trans rfl
         have hcz8_1 : wr.cell? ⟨gb244, 1, none⟩ = some (.slice A0_1 l0_1.length c0_1) := (blk_cell BK244.out 1).trans rfl
         have hcz8_2 : wr.cell? ⟨gb244, 2, none⟩ = some (.slice A0_2 l0_2.length c0_2) := (blk_cell BK244.out 2).trans rfl
         have hcz8_3 : wr.cell? ⟨gb244, 3, none⟩ = some (.slice A0_3 l0_3.length c0_3) := (blk_cell BK244.out 3).trans rfl
         have hfz8_0 := blk_frozen BK244.out 0
         have hfz8_1 := blk_frozen BK244.out 1
         have hfz8_2 := blk_frozen BK244.out 2
         have hfz8_3 := blk_frozen BK244.out 3
         have p245 : 0 ≤ (x6_1 : Int) := of_decide_eq_true (by first | (with_reducible assumption) | assumption)
         have q245 : x6_1 < (l0_3.length : Int) := of_decide_eq_true (by first | (with_reducible assumption) | assumption)
         obtain ⟨ad245, A245_1, c245_1, A245_2, c245_2, A245_3, c245_3, e245, hx245_0, hx245_1, hx245_2, hx245_3, hl245_1, hi245_1, hl245_2, hi245_2, hl245_3, hi245_3⟩ := at_T37 HR0_3.out x6_1 p245 q245
         cases e245
         replace hx245_0 := (HB.out.cell (World.block_lt_of_cell? w _ hx245_0)).trans hx245_0
         replace hx245_1 := (HB.out.cell (World.block_lt_of_cell? w _ hx245_1)).trans hx245_1
         replace hx245_2 := (HB.out.cell (World.block_lt_of_cell? w _ hx245_2)).trans hx245_2
         replace hx245_3 := (HB.out.cell (World.block_lt_of_cell? w _ hx245_3)).trans hx245_3
         have HR245_1 := Aside0.mk hi245_1
         have HC245_1 := Aside0.mk hl245_1
         clear hi245_1 hl245_1
         have HR245_2 := Aside0.mk hi245_2
         have HC245_2 := Aside0.mk hl245_2
         clear hi245_2 hl245_2
         have HR245_3 := Aside0.mk hi245_3
         have HC245_3 := Aside0.mk hl245_3
         clear hi245_3 hl245_3
         replace p245 := eq_true p245
         replace q245 := eq_true q245
         go_wp2_with (first | ((with_reducible refine gate_callee (f := 10) rfl ?_); refine goesL_ (some 26) rfl rfl Tryd.func10 (by kernel_rfl) rfl #[.agg #[.int .i64 ((rd_T37 l0_3 x6_1).f0), .slice A245_1 ((rd_T37 l0_3 x6_1).f1).length c245_1, .slice A245_2 ((rd_T37 l0_3 x6_1).f2).length c245_2, .slice A245_3 ((rd_T37 l0_3 x6_1).f3).length c245_3]] rfl (by (try simp only [List.map_toArray, List.map_cons, List.map_nil]); first | done | rfl | (simp only [List.length_drop, List.length_take]; rfl)) ?_; (with_reducible refine (ih k1 (by have := HK1.out; omega) ((rd_T37 l0_3 x6_1).f0) _ _ ((rd_T37 l0_3 x6_1).f1) _ _ ((rd_T37 l0_3 x6_1).f2) _ _ ((rd_T37 l0_3 x6_1).f3) t246 t247 _ ?side1 ?side2 ?side3 ?side4 ?side5 ?side6 A6.out).mono ?_); (case side1 => repeat (first | exact (Kd.C_below HR245_1.out HB.out) | (with_reducible refine Kd.C_alloc ?_ _) | (with_reducible refine Kd.C_drewN ?_ _) | (with_reducible refine Kd.C_drew ?_))); (case side2 => exact HC245_1.out); (case side3 => repeat (first | exact (Kd.C_below HR245_2.out HB.out) | (with_reducible refine Kd.C_alloc ?_ _) | (with_reducible refine Kd.C_drewN ?_ _) | (with_reducible refine Kd.C_drew ?_))); (case side4 => exact HC245_2.out); (case side5 => repeat (first | exact (Kd.C_below HR245_3.out HB.out) | (with_reducible refine Kd.C_alloc ?_ _) | (with_reducible refine Kd.C_drewN ?_ _) | (with_reducible refine Kd.C_drew ?_))); (case side6 => exact HC245_3.out); rintro e w9 ⟨rfl, hb⟩; refine ⟨_, rfl, ?_⟩; have n0_ := Aside0.mk (blk_below (g := gb244) (o := .cells #[.int .i64 a0_0, .slice A0_1 l0_1.length c0_1, .slice A0_2 l0_2.length c0_2, .slice (some ad245) l0_3.length c0_3] 37 (0, 0)) (by (with_reducible repeat (first | refine blk_drewN ?_ _ | refine blk_drew ?_ | refine blk_alloc ?_ _)); exact BK244.out) hb); have n1_ := Aside0.mk (below_step (by repeat (first | (with_reducible first | exact HB.out | apply below_alloc | apply pw_below_drewN | apply below_drew1 | refine below_set ?_ GE244.out) | exact HB.out)) hb); clear BK244; clear HB; have BK244 := n0_; have HB := n1_; clear n0_ n1_; (try clear hb); (try clear hb2); (try clear hk); (try clear hi)))
         go_roundg k1
         case measure => have := HK1.out; omega
         case rel => exact ⟨(wrap64 (x4_1 + t246)), (ji7), (wrap64 (x6_1 + 1)), (by first | rfl | (simp; done) | (simp [*]; done)), (by first | rfl | (simp; done) | (simp only [← hji7] <;> (first | rfl | simp)) | (simp [*]; done)), (by first | rfl | (simp; done) | (simp [*]; done)), H', ⟨by have := HK1.out; omega⟩, ⟨by (with_reducible repeat (first | refine blk_drewN ?_ _ | refine blk_drew ?_ | refine blk_alloc ?_ _)); exact BK244.out⟩, ⟨by repeat (first | (with_reducible first | exact HB.out | apply below_alloc | apply pw_below_drewN | apply below_drew1 | refine below_set ?_ GE244.out) | exact HB.out)⟩⟩
       · rw [if_neg c5] at H
         exact absurd H (by simp)
     · rw [if_neg c4] at H
       have c4b0 : decide (x4_1 < 2000) = false := decide_eq_false c4
       clear c4
       simp only [Option.some.injEq, Prod.mk.injEq] at H
       obtain ⟨rfl, rfl⟩ := H
       have hcz10_0 : wr.cell? ⟨gb244, 0, none⟩ = some (.int .i64 a0_0) := (blk_cell BK244.out 0).trans rfl
       have hcz10_1 : wr.cell? ⟨gb244, 1, none⟩ = some (.slice A0_1 l0_1.length c0_1) := (blk_cell BK244.out 1).trans rfl
       have hcz10_2 : wr.cell? ⟨gb244, 2, none⟩ = some (.slice A0_2 l0_2.length c0_2) := (blk_cell BK244.out 2).trans rfl
       have hcz10_3 : wr.cell? ⟨gb244, 3, none⟩ = some (.slice A0_3 l0_3.length c0_3) := (blk_cell BK244.out 3).trans rfl
       have hfz10_0 := blk_frozen BK244.out 0
       have hfz10_1 := blk_frozen BK244.out 1
       have hfz10_2 := blk_frozen BK244.out 2
       have hfz10_3 := blk_frozen BK244.out 3
       go_wp2
       go_ret2
       exact ⟨by first | rfl | (simp [errW_none, errW_some] <;> rfl) | (simp [*, errW_none, errW_some] <;> rfl), by repeat (first | (with_reducible first | exact HB.out | apply below_alloc | apply pw_below_drewN | apply below_drew1 | refine below_set ?_ GE244.out) | exact HB.out)⟩
   · rw [if_neg c3] at H
     have c3b0 : decide (x6_1 < (l0_3.length : Int)) = false := decide_eq_false c3
     clear c3
     simp only [Option.some.injEq, Prod.mk.injEq] at H
     obtain ⟨rfl, rfl⟩ := H
     have hcz11_0 : wr.cell? ⟨gb244, 0, none⟩ = some (.int .i64 a0_0) := (blk_cell BK244.out 0).trans rfl
     have hcz11_1 : wr.cell? ⟨gb244, 1, none⟩ = some (.slice A0_1 l0_1.length c0_1) := (blk_cell BK244.out 1).trans rfl
     have hcz11_2 : wr.cell? ⟨gb244, 2, none⟩ = some (.slice A0_2 l0_2.length c0_2) := (blk_cell BK244.out 2).trans rfl
     have hcz11_3 : wr.cell? ⟨gb244, 3, none⟩ = some (.slice A0_3 l0_3.length c0_3) := (blk_cell BK244.out 3).trans rfl
     have hfz11_0 := blk_frozen BK244.out 0
     have hfz11_1 := blk_frozen BK244.out 1
     have hfz11_2 := blk_frozen BK244.out 2
     have hfz11_3 := blk_frozen BK244.out 3
     go_wp2
     go_ret2
     exact ⟨by first | rfl | (simp [errW_none, errW_some] <;> rfl) | (simp [*, errW_none, errW_some] <;> rfl), by repeat (first | (with_reducible first | exact HB.out | apply below_alloc | apply pw_below_drewN | apply below_drew1 | refine below_set ?_ GE244.out) | exact HB.out)⟩
mutual
def goboref11_Empty.j0 : Nat → Int → Bool → Int → List ByteArray → List ByteArray → List (S37) → Option (Bool)
 | 0, _, _, _, _, _, _ => none
 | k + 1, x4, x5, x249000, x249001, x249002, x249003 => if x5 = true then (some true) else (if x4 = 5 then (if (x249003.length : Int) = 2 then (if 0 < (x249003.length : Int) then ((goboref11_Empty.f k ((rd_T37 x249003 0).f0) ((rd_T37 x249003 0).f1) ((rd_T37 x249003 0).f2) ((rd_T37 x249003 0).f3)).bind fun t250 => (if t250 = true then (if 1 < (x249003.length : Int) then ((goboref11_Empty.f k ((rd_T37 x249003 1).f0) ((rd_T37 x249003 1).f1) ((rd_T37 x249003 1).f2) ((rd_T37 x249003 1).f3)).bind fun t252 => (some t252)) else (none)) else (some false))) else (none)) else (some false)) else (if x4 = 6 then (if (x249003.length : Int) = 2 then (if 0 < (x249003.length : Int) then ((goboref11_Empty.f k ((rd_T37 x249003 0).f0) ((rd_T37 x249003 0).f1) ((rd_T37 x249003 0).f2) ((rd_T37 x249003 0).f3)).bind fun t254 => (if t254 = true then (some true) else (if 1 < (x249003.length : Int) then ((goboref11_Empty.f k ((rd_T37 x249003 1).f0) ((rd_T37 x249003 1).f1) ((rd_T37 x249003 1).f2) ((rd_T37 x249003 1).f3)).bind fun t256 => (some t256)) else (none)))) else (none)) else (some false)) else (some false)))
def goboref11_Empty.f : Nat → Int → List ByteArray → List ByteArray → List (S37) → Option (Bool)
 | 0, _, _, _, _ => none
 | k + 1, a0_0, l0_1, l0_2, l0_3 => if a0_0 = 1 then (goboref11_Empty.j0 k a0_0 (a0_0 == 1) a0_0 l0_1 l0_2 l0_3) else (if a0_0 = 4 then (goboref11_Empty.j0 k a0_0 (a0_0 == 4) a0_0 l0_1 l0_2 l0_3) else (goboref11_Empty.j0 k a0_0 (a0_0 == 7) a0_0 l0_1 l0_2 l0_3))
end
theorem goboref11_Empty.mono_l : ∀ k, (∀ y0 y1 y2 y3, LeO (goboref11_Empty.f k y0 y1 y2 y3) (goboref11_Empty.f (k + 1) y0 y1 y2 y3)) ∧ (∀ y0 y1 y2 y3 y4 y5, LeO (goboref11_Empty.j0 k y0 y1 y2 y3 y4 y5) (goboref11_Empty.j0 (k + 1) y0 y1 y2 y3 y4 y5))
 | 0 => ⟨fun _ _ _ _ r h => by simp [goboref11_Empty.f] at h, fun _ _ _ _ _ _ r h => by simp [goboref11_Empty.j0] at h⟩
 | k + 1 => by
  obtain ⟨ih0, ih1⟩ := goboref11_Empty.mono_l k
  refine ⟨?_, ?_⟩
  · intro y0 y1 y2 y3
    unfold goboref11_Empty.f
    repeat' first
    | (with_reducible exact ih0 _ _ _ _)
    | (with_reducible exact ih1 _ _ _ _ _ _)
    | (with_reducible exact LeO.refl _)
    | (with_reducible exact LeO.none _)
    | (with_reducible refine LeO.ite ?_ ?_)
    | (with_reducible refine LeO.bind ?_ (fun _ => ?_))
    | exact ih0 _ _ _ _
    | exact ih1 _ _ _ _ _ _
    | exact LeO.none _
    | refine LeO.ite ?_ ?_
    | refine LeO.bind ?_ (fun _ => ?_)
  · intro y0 y1 y2 y3 y4 y5
    unfold goboref11_Empty.j0
    repeat' first
    | (with_reducible exact ih0 _ _ _ _)
    | (with_reducible exact ih1 _ _ _ _ _ _)
    | (with_reducible exact LeO.refl _)
    | (with_reducible exact LeO.none _)
    | (with_reducible refine LeO.ite ?_ ?_)
    | (with_reducible refine LeO.bind ?_ (fun _ => ?_))
    | exact ih0 _ _ _ _
    | exact ih1 _ _ _ _ _ _
    | exact LeO.none _
    | refine LeO.ite ?_ ?_
    | refine LeO.bind ?_ (fun _ => ?_)
theorem goboref11_Empty.mono : ∀ a0 a1 a2 a3 k, LeO (goboref11_Empty.f k a0 a1 a2 a3) (goboref11_Empty.f (k + 1) a0 a1 a2 a3) := by
 intro a0 a1 a2 a3 k
 obtain ⟨ih0, ih1⟩ := goboref11_Empty.mono_l k
 exact ih0 a0 a1 a2 a3
set_option maxHeartbeats 8000000 in
set_option maxRecDepth 100000 in
theorem goboref11_Empty.calls (k : Nat) : ∀ (a0_0 : Int) (A0_1 : Option Addr) (c0_1 : Nat) (l0_1 : List ByteArray) (A0_2 : Option Addr) (c0_2 : Nat) (l0_2 : List ByteArray) (A0_3 : Option Addr) (c0_3 : Nat) (l0_3 : List (S37)) (r : Bool) (w : World) (hr0_1 : Kd.C Kd.string w A0_1 l0_1.length l0_1) (hc0_1 : l0_1.length ≤ c0_1) (hr0_2 : Kd.C Kd.string w A0_2 l0_2.length l0_2) (hc0_2 : l0_2.length ≤ c0_2) (hr0_3 : Kd.C k37 w A0_3 l0_3.length l0_3) (hc0_3 : l0_3.length ≤ c0_3) (h : goboref11_Empty.f k a0_0 l0_1 l0_2 l0_3 = some r),
 Calls Tryd.prog 12 #[.agg #[.int .i64 a0_0, .slice A0_1 l0_1.length c0_1, .slice A0_2 l0_2.length c0_2, .slice A0_3 l0_3.length c0_3]] w fun e w' => e = .returned (.bool r) ∧ Below w.heap.size w w' := by
 induction k using Nat.strongRecOn with
 | _ k ih =>
 intro a0_0 A0_1 c0_1 l0_1 A0_2 c0_2 l0_2 A0_3 c0_3 l0_3 r w hr0_1 hc0_1 hr0_2 hc0_2 hr0_3 hc0_3 h
 cases k with
 | zero => exact absurd h (by simp [goboref11_Empty.f])
 | succ k =>
 simp only [goboref11_Empty.f] at h
 have hu37 := Tryd.underlying37
 have HR0_1 := Aside0.mk hr0_1
 have HC0_1 := Aside0.mk hc0_1
 clear hr0_1 hc0_1
 have HR0_2 := Aside0.mk hr0_2
 have HC0_2 := Aside0.mk hc0_2
 clear hr0_2 hc0_2
 have HR0_3 := Aside0.mk hr0_3
 have HC0_3 := Aside0.mk hc0_3
 clear hr0_3 hc0_3
 have HB := Aside0.mk (Below.refl w.heap.size w)
 have H : (if a0_0 = 1 then (goboref11_Empty.j0 k a0_0 (a0_0 == 1) a0_0 l0_1 l0_2 l0_3) else (if a0_0 = 4 then (goboref11_Empty.j0 k a0_0 (a0_0 == 4) a0_0 l0_1 l0_2 l0_3) else (goboref11_Empty.j0 k a0_0 (a0_0 == 7) a0_0 l0_1 l0_2 l0_3))) = some r := h
 clear h
 have HC2 := Aside0.mk H
 clear H
 go_enter Tryd.func12, Tryd.ntmps12
 go_upto_if 5 with (first | ((with_reducible refine gate_dst (N := 1) rfl ?_); refine box_event ?hg (N := 1) ?hd (cs := #[.int .i64 a0_0, .slice A0_1 l0_1.length c0_1, .slice A0_2 l0_2.length c0_2, .slice A0_3 l0_3.length c0_3]) (t := 37) ?hr ?_; (case hd => rfl); (case hg => rfl); (case hr => first | (go_simp; done) | (go_simp; rfl)); intro gb248 hg w3 hbox hb; have n0_ := Aside0.mk (below_step (by repeat (first | (with_reducible first | exact HB.out | apply below_alloc | apply pw_below_drewN | apply below_drew1) | exact HB.out)) hb); have n1_ := Aside0.mk (hbox); have n2_ := Aside0.mk ((by rw [hg]; exact (below_size (by repeat (first | (with_reducible first | exact HB.out | apply below_alloc | apply pw_below_drewN | apply below_drew1) | exact HB.out))) : w.heap.size ≤ gb248)); have n3_ := Aside0.mk ((by rw [hg]; exact (below_size (by repeat (first | (with_reducible first | exact HB.out | apply below_alloc | apply pw_below_drewN | apply below_drew1) | exact HB.out))) : w.heap.size ≤ gb248)); clear HB; have HB := n0_; have BK248 := n1_; have GW248 := n2_; have GE248 := n3_; clear n0_ n1_ n2_ n3_; clear hb hbox hg; have hcz4_0 : w3.cell? ⟨gb248, 0, none⟩ = some (.int .i64 a0_0) := (blk_cell BK248.out 0).trans rfl; have hcz4_1 : w3.cell? ⟨gb248, 1, none⟩ = some (.slice A0_1 l0_1.length c0_1) := (blk_cell BK248.out 1).trans rfl; have hcz4_2 : w3.cell? ⟨gb248, 2, none⟩ = some (.slice A0_2 l0_2.length c0_2) := (blk_cell BK248.out 2).trans rfl; have hcz4_3 : w3.cell? ⟨gb248, 3, none⟩ = some (.slice A0_3 l0_3.length c0_3) := (blk_cell BK248.out 3).trans rfl; have hfz4_0 := blk_frozen BK248.out 0; have hfz4_1 := blk_frozen BK248.out 1; have hfz4_2 := blk_frozen BK248.out 2; have hfz4_3 := blk_frozen BK248.out 3))
 (try simp only [Act.put, List.setIfInBounds_toArray, List.set_cons_zero, List.set_cons_succ])
 go_cut [5] (fun v5 wc => ∃ (kq : Nat) (x5_1 : Bool), v5 = .bool x5_1 ∧ Aside0 (goboref11_Empty.j0 kq a0_0 x5_1 a0_0 l0_1 l0_2 l0_3 = some r) ∧ Aside0 (kq ≤ k) ∧ Aside0 (wc.heap[gb248]? = some (.cells #[.int .i64 a0_0, (.slice A0_1 l0_1.length c0_1), (.slice A0_2 l0_2.length c0_2), (.slice A0_3 l0_3.length c0_3)] 37 (0, 0))) ∧ Aside0 (Below w.heap.size w wc))
 case first =>
  have H := HC2.out
  clear HC2
  by_cases c5 : a0_0 = 1
  · rw [if_pos c5] at H
    have c5b0 : (a0_0 == 1) = true := beq_iff_eq.mpr c5
    have c5b1 : (a0_0 != 1) = false := bne_eq_false_iff_eq.mpr c5
    clear c5
    (first | rw [c5b0] | (simp only [i64_w, i32_w]; rw [c5b0]) | skip)
    have H' := Aside0.mk H
    clear H
    go_wp2
    go_meet
    case rel => exact ⟨_, ((a0_0 == 1)), (by first | rfl | (simp; done) | (simp [*]; done)), H', ⟨by first | omega | exact Nat.le_refl _⟩, ⟨by (with_reducible repeat (first | refine blk_drewN ?_ _ | refine blk_drew ?_ | refine blk_alloc ?_ _)); exact BK248.out⟩, ⟨by repeat (first | (with_reducible first | exact HB.out | apply below_alloc | apply pw_below_drewN | apply below_drew1 | refine below_set ?_ GE248.out) | exact HB.out)⟩⟩
  · rw [if_neg c5] at H
    have c5b0 : (a0_0 == 1) = false := beq_eq_false_iff_ne.mpr c5
    have c5b1 : (a0_0 != 1) = true := bne_iff_ne.mpr c5
    (first | rw [c5b0] | (simp only [i64_w, i32_w]; rw [c5b0]) | skip)
    by_cases c6 : a0_0 = 4
    · rw [if_pos c6] at H
      have c6b0 : (a0_0 == 4) = true := beq_iff_eq.mpr c6
      have c6b1 : (a0_0 != 4) = false := bne_eq_false_iff_eq.mpr c6
      clear c6
      have H' := Aside0.mk H
      clear H
      go_wp2
      go_meet
      case rel => exact ⟨_, ((a0_0 == 4)), (by first | rfl | (simp; done) | (simp [*]; done)), H', ⟨by first | omega | exact Nat.le_refl _⟩, ⟨by (with_reducible repeat (first | refine blk_drewN ?_ _ | refine blk_drew ?_ | refine blk_alloc ?_ _)); exact BK248.out⟩, ⟨by repeat (first | (with_reducible first | exact HB.out | apply below_alloc | apply pw_below_drewN | apply below_drew1 | refine below_set ?_ GE248.out) | exact HB.out)⟩⟩
    · rw [if_neg c6] at H
      have c6b0 : (a0_0 == 4) = false := beq_eq_false_iff_ne.mpr c6
      have c6b1 : (a0_0 != 4) = true := bne_iff_ne.mpr c6
      have H' := Aside0.mk H
      clear H
      go_wp2
      go_meet
      case rel => exact ⟨_, ((a0_0 == 7)), (by first | rfl | (simp; done) | (simp [*]; done)), H', ⟨by first | omega | exact Nat.le_refl _⟩, ⟨by (with_reducible repeat (first | refine blk_drewN ?_ _ | refine blk_drew ?_ | refine blk_alloc ?_ _)); exact BK248.out⟩, ⟨by repeat (first | (with_reducible first | exact HB.out | apply below_alloc | apply pw_below_drewN | apply below_drew1 | refine below_set ?_ GE248.out) | exact HB.out)⟩⟩
 case rest =>
  clear HC2
  try clear c1
  try clear p2
  try clear c5
  try clear c5b0
  try clear c5b1
  try clear c6
  try clear c6b0
  try clear c6b1
  try clear hcz4_0
  try clear hcz4_1
  try clear hcz4_2
  try clear hcz4_3
  try clear hfz4_0
  try clear hfz4_1
  try clear hfz4_2
  try clear hfz4_3
  obtain ⟨kq, x5_1, rfl, HA, HJ1, BK248, HB⟩ := hcut
  cases kq with
  | zero => exact absurd HA.out (by simp [goboref11_Empty.j0])
  | succ kj1 =>
   have H := HA.out
   clear HA
   simp only [goboref11_Empty.j0] at H
   by_cases c7 : x5_1 = true
   · subst c7
     have H1 : (some true) = some r := by rw [if_pos rfl] at H; exact H
     clear H
     have H := H1
     clear H1
     obtain rfl := Option.some.inj H
     go_wp2
     go_ret
     exact ⟨by first | rfl | (simp [errW_none, errW_some] <;> rfl) | (simp [*, errW_none, errW_some] <;> rfl), by repeat (first | (with_reducible first | exact HB.out | apply below_alloc | apply pw_below_drewN | apply below_drew1 | refine below_set ?_ GE248.out) | exact HB.out)⟩
   · replace c7 := Bool.eq_false_iff.mpr c7
     subst c7
     have H1 : (if a0_0 = 5 then (if (l0_3.length : Int) = 2 then (if 0 < (l0_3.length : Int) then ((goboref11_Empty.f kj1 ((rd_T37 l0_3 0).f0) ((rd_T37 l0_3 0).f1) ((rd_T37 l0_3 0).f2) ((rd_T37 l0_3 0).f3)).bind fun t250 => (if t250 = true then (if 1 < (l0_3.length : Int) then ((goboref11_Empty.f kj1 ((rd_T37 l0_3 1).f0) ((rd_T37 l0_3 1).f1) ((rd_T37 l0_3 1).f2) ((rd_T37 l0_3 1).f3)).bind fun t252 => (some t252)) else (none)) else (some false))) else (none)) else (some false)) else (if a0_0 = 6 then (if (l0_3.length : Int) = 2 then (if 0 < (l0_3.length : Int) then ((goboref11_Empty.f kj1 ((rd_T37 l0_3 0).f0) ((rd_T37 l0_3 0).f1) ((rd_T37 l0_3 0).f2) ((rd_T37 l0_3 0).f3)).bind fun t254 => (if t254 = true then (some true) else (if 1 < (l0_3.length : Int) then ((goboref11_Empty.f kj1 ((rd_T37 l0_3 1).f0) ((rd_T37 l0_3 1).f1) ((rd_T37 l0_3 1).f2) ((rd_T37 l0_3 1).f3)).bind fun t256 => (some t256)) else (none)))) else (none)) else (some false)) else (some false))) = some r := by rw [if_neg (show ¬ (false = true) by decide)] at H; exact H
     clear H
     have H := H1
     clear H1
     by_cases c8 : a0_0 = 5
     · rw [if_pos c8] at H
       have c8b0 : (a0_0 == 5) = true := beq_iff_eq.mpr c8
       have c8b1 : (a0_0 != 5) = false := bne_eq_false_iff_eq.mpr c8
       clear c8
       by_cases c9 : (l0_3.length : Int) = 2
       · rw [if_pos c9] at H
         have c9b0 : ((l0_3.length : Int) == 2) = true := beq_iff_eq.mpr c9
         have c9b1 : ((l0_3.length : Int) != 2) = false := bne_eq_false_iff_eq.mpr c9
         clear c9
         by_cases c10 : 0 < (l0_3.length : Int)
         · rw [if_pos c10] at H
           have c10b0 : decide (0 < (l0_3.length : Int)) = true := decide_eq_true c10
           have c10b1 : decide (0 < l0_3.length) = true := decide_eq_true (by omega)
           clear c10
           replace H := Option.bind_eq_some_iff.mp H
           obtain ⟨t250, A110, H⟩ := H
           replace H : (if t250 = true then (if 1 < (l0_3.length : Int) then ((goboref11_Empty.f kj1 ((rd_T37 l0_3 1).f0) ((rd_T37 l0_3 1).f1) ((rd_T37 l0_3 1).f2) ((rd_T37 l0_3 1).f3)).bind fun t252 => (some t252)) else (none)) else (some false)) = some r := H
           have A11 := Aside0.mk A110
           clear A110
           by_cases c12 : t250 = true
           · subst c12
             have H1 : (if 1 < (l0_3.length : Int) then ((goboref11_Empty.f kj1 ((rd_T37 l0_3 1).f0) ((rd_T37 l0_3 1).f1) ((rd_T37 l0_3 1).f2) ((rd_T37 l0_3 1).f3)).bind fun t252 => (some t252)) else (none)) = some r := by rw [if_pos rfl] at H; exact H
             clear H
             have H := H1
             clear H1
             by_cases c13 : 1 < (l0_3.length : Int)
             · rw [if_pos c13] at H
               have c13b0 : decide (1 < (l0_3.length : Int)) = true := decide_eq_true c13
               have c13b1 : decide (1 < l0_3.length) = true := decide_eq_true (by omega)
               clear c13
               replace H := Option.bind_eq_some_iff.mp H
               obtain ⟨t252, A140, H⟩ := H
               replace H : (some t252) = some r := H
               have A14 := Aside0.mk A140
               clear A140
               obtain rfl := Option.some.inj H
               have hcz15_0 : wc.cell? ⟨gb248, 0, none⟩ = some (.int .i64 a0_0) := (blk_cell BK248.out 0).trans rfl
               have hcz15_1 : wc.cell? ⟨gb248, 1, none⟩ = some (.slice A0_1 l0_1.length c0_1) := (blk_cell BK248.out 1).trans rfl
               have hcz15_2 : wc.cell? ⟨gb248, 2, none⟩ = some (.slice A0_2 l0_2.length c0_2) := (blk_cell BK248.out 2).trans rfl
               have hcz15_3 : wc.cell? ⟨gb248, 3, none⟩ = some (.slice A0_3 l0_3.length c0_3) := (blk_cell BK248.out 3).trans rfl
               have hfz15_0 := blk_frozen BK248.out 0
               have hfz15_1 := blk_frozen BK248.out 1
               have hfz15_2 := blk_frozen BK248.out 2
               have hfz15_3 := blk_frozen BK248.out 3
               have p249 : 0 ≤ (0 : Int) := (by omega)
               have q249 : 0 < (l0_3.length : Int) := of_decide_eq_true (by first | (with_reducible assumption) | assumption)
               obtain ⟨ad249, A249_1, c249_1, A249_2, c249_2, A249_3, c249_3, e249, hx249_0, hx249_1, hx249_2, hx249_3, hl249_1, hi249_1, hl249_2, hi249_2, hl249_3, hi249_3⟩ := at_T37 HR0_3.out 0 p249 q249
               cases e249
               have qi249 : (0 < l0_3.length) = True := eq_true (by omega)
               (try rw [show ((0 : Int)).toNat = 0 from rfl] at hx249_0)
               (try rw [show 0 * 4 = 0 from rfl] at hx249_0)
               (try rw [Addr.add_zero'] at hx249_0)
               (try rw [show ((0 : Int)).toNat = 0 from rfl] at hx249_1)
               (try rw [show 0 * 4 = 0 from rfl] at hx249_1)
               (try rw [Addr.add_zero'] at hx249_1)
               (try rw [show ((0 : Int)).toNat = 0 from rfl] at hx249_2)
               (try rw [show 0 * 4 = 0 from rfl] at hx249_2)
               (try rw [Addr.add_zero'] at hx249_2)
               (try rw [show ((0 : Int)).toNat = 0 from rfl] at hx249_3)
               (try rw [show 0 * 4 = 0 from rfl] at hx249_3)
               (try rw [Addr.add_zero'] at hx249_3)
               replace hx249_0 := (HB.out.cell (World.block_lt_of_cell? w _ hx249_0)).trans hx249_0
               replace hx249_1 := (HB.out.cell (World.block_lt_of_cell? w _ hx249_1)).trans hx249_1
               replace hx249_2 := (HB.out.cell (World.block_lt_of_cell? w _ hx249_2)).trans hx249_2
               replace hx249_3 := (HB.out.cell (World.block_lt_of_cell? w _ hx249_3)).trans hx249_3
               have HR249_1 := Aside0.mk hi249_1
               have HC249_1 := Aside0.mk hl249_1
               clear hi249_1 hl249_1
               have HR249_2 := Aside0.mk hi249_2
               have HC249_2 := Aside0.mk hl249_2
               clear hi249_2 hl249_2
               have HR249_3 := Aside0.mk hi249_3
               have HC249_3 := Aside0.mk hl249_3
               clear hi249_3 hl249_3
               replace p249 := eq_true p249
               replace q249 := eq_true q249
               go_wp2_with (first | (go_at_call 12; (with_reducible refine (ih kj1 (by have := HJ1.out; omega) ((rd_T37 l0_3 0).f0) _ _ ((rd_T37 l0_3 0).f1) _ _ ((rd_T37 l0_3 0).f2) _ _ ((rd_T37 l0_3 0).f3) true _ ?side1 ?side2 ?side3 ?side4 ?side5 ?side6 A11.out).mono ?_); (case side1 => repeat (first | exact (Kd.C_below HR249_1.out HB.out) | (with_reducible refine Kd.C_alloc ?_ _) | (with_reducible refine Kd.C_drewN ?_ _) | (with_reducible refine Kd.C_drew ?_))); (case side2 => exact HC249_1.out); (case side3 => repeat (first | exact (Kd.C_below HR249_2.out HB.out) | (with_reducible refine Kd.C_alloc ?_ _) | (with_reducible refine Kd.C_drewN ?_ _) | (with_reducible refine Kd.C_drew ?_))); (case side4 => exact HC249_2.out); (case side5 => repeat (first | exact (Kd.C_below HR249_3.out HB.out) | (with_reducible refine Kd.C_alloc ?_ _) | (with_reducible refine Kd.C_drewN ?_ _) | (with_reducible refine Kd.C_drew ?_))); (case side6 => exact HC249_3.out); rintro e w16 ⟨rfl, hb⟩; have n0_ := Aside0.mk (blk_below (g := gb248) (o := .cells #[.int .i64 a0_0, .slice A0_1 l0_1.length c0_1, .slice A0_2 l0_2.length c0_2, .slice (some ad249) l0_3.length c0_3] 37 (0, 0)) (by (with_reducible repeat (first | refine blk_drewN ?_ _ | refine blk_drew ?_ | refine blk_alloc ?_ _)); exact BK248.out) hb); have n1_ := Aside0.mk (below_step (by repeat (first | (with_reducible first | exact HB.out | apply below_alloc | apply pw_below_drewN | apply below_drew1 | refine below_set ?_ GE248.out) | exact HB.out)) hb); clear BK248; clear HB; have BK248 := n0_; have HB := n1_; clear n0_ n1_; (try clear hb); (try clear hb2); (try clear hk); (try clear hi); have hcz17_0 : w16.cell? ⟨gb248, 0, none⟩ = some (.int .i64 a0_0) := (blk_cell BK248.out 0).trans rfl; have hcz17_1 : w16.cell? ⟨gb248, 1, none⟩ = some (.slice A0_1 l0_1.length c0_1) := (blk_cell BK248.out 1).trans rfl; have hcz17_2 : w16.cell? ⟨gb248, 2, none⟩ = some (.slice A0_2 l0_2.length c0_2) := (blk_cell BK248.out 2).trans rfl; have hcz17_3 : w16.cell? ⟨gb248, 3, none⟩ = some (.slice (some ad249) l0_3.length c0_3) := (blk_cell BK248.out 3).trans rfl; have hfz17_0 := blk_frozen BK248.out 0; have hfz17_1 := blk_frozen BK248.out 1; have hfz17_2 := blk_frozen BK248.out 2; have hfz17_3 := blk_frozen BK248.out 3; have p251 : 0 ≤ (1 : Int) := (by omega); have q251 : 1 < (l0_3.length : Int) := of_decide_eq_true (by first | (with_reducible assumption) | assumption); obtain ⟨ad251, A251_1, c251_1, A251_2, c251_2, A251_3, c251_3, e251, hx251_0, hx251_1, hx251_2, hx251_3, hl251_1, hi251_1, hl251_2, hi251_2, hl251_3, hi251_3⟩ := at_T37 HR0_3.out 1 p251 q251; obtain rfl : ad249 = ad251 := (by injection e251); (try simp only [show (1 : Int).toNat = 1 from rfl, Nat.reduceMul, Nat.reduceEqDiff, Go.Addr.add, ↓reduceIte] at hx251_0); (try simp only [show (1 : Int).toNat = 1 from rfl, Nat.reduceMul, Nat.reduceEqDiff, Go.Addr.add, ↓reduceIte] at hx251_1); (try simp only [show (1 : Int).toNat = 1 from rfl, Nat.reduceMul, Nat.reduceEqDiff, Go.Addr.add, ↓reduceIte] at hx251_2); (try simp only [show (1 : Int).toNat = 1 from rfl, Nat.reduceMul, Nat.reduceEqDiff, Go.Addr.add, ↓reduceIte] at hx251_3); have qi251 : (1 < l0_3.length) = True := eq_true (by omega); (try rw [show ((1 : Int)).toNat = 1 from rfl] at hx251_0); (try rw [show 1 * 4 = 4 from rfl] at hx251_0); (try rw [show ((1 : Int)).toNat = 1 from rfl] at hx251_1); (try rw [show 1 * 4 = 4 from rfl] at hx251_1); (try rw [show ((1 : Int)).toNat = 1 from rfl] at hx251_2); (try rw [show 1 * 4 = 4 from rfl] at hx251_2); (try rw [show ((1 : Int)).toNat = 1 from rfl] at hx251_3); (try rw [show 1 * 4 = 4 from rfl] at hx251_3); replace hx251_0 := (HB.out.cell (World.block_lt_of_cell? w _ hx251_0)).trans hx251_0; replace hx251_1 := (HB.out.cell (World.block_lt_of_cell? w _ hx251_1)).trans hx251_1; replace hx251_2 := (HB.out.cell (World.block_lt_of_cell? w _ hx251_2)).trans hx251_2; replace hx251_3 := (HB.out.cell (World.block_lt_of_cell? w _ hx251_3)).trans hx251_3; have HR251_1 := Aside0.mk hi251_1; have HC251_1 := Aside0.mk hl251_1; clear hi251_1 hl251_1; have HR251_2 := Aside0.mk hi251_2; have HC251_2 := Aside0.mk hl251_2; clear hi251_2 hl251_2; have HR251_3 := Aside0.mk hi251_3; have HC251_3 := Aside0.mk hl251_3; clear hi251_3 hl251_3; replace p251 := eq_true p251; replace q251 := eq_true q251) | (go_at_call 12; (with_reducible refine (ih kj1 (by have := HJ1.out; omega) ((rd_T37 l0_3 1).f0) _ _ ((rd_T37 l0_3 1).f1) _ _ ((rd_T37 l0_3 1).f2) _ _ ((rd_T37 l0_3 1).f3) t252 _ ?side1 ?side2 ?side3 ?side4 ?side5 ?side6 A14.out).mono ?_); (case side1 => repeat (first | exact (Kd.C_below HR251_1.out HB.out) | (with_reducible refine Kd.C_alloc ?_ _) | (with_reducible refine Kd.C_drewN ?_ _) | (with_reducible refine Kd.C_drew ?_))); (case side2 => exact HC251_1.out); (case side3 => repeat (first | exact (Kd.C_below HR251_2.out HB.out) | (with_reducible refine Kd.C_alloc ?_ _) | (with_reducible refine Kd.C_drewN ?_ _) | (with_reducible refine Kd.C_drew ?_))); (case side4 => exact HC251_2.out); (case side5 => repeat (first | exact (Kd.C_below HR251_3.out HB.out) | (with_reducible refine Kd.C_alloc ?_ _) | (with_reducible refine Kd.C_drewN ?_ _) | (with_reducible refine Kd.C_drew ?_))); (case side6 => exact HC251_3.out); rintro e w18 ⟨rfl, hb⟩; have n0_ := Aside0.mk (blk_below (g := gb248) (o := .cells #[.int .i64 a0_0, .slice A0_1 l0_1.length c0_1, .slice A0_2 l0_2.length c0_2, .slice (some ad249) l0_3.length c0_3] 37 (0, 0)) (by (with_reducible repeat (first | refine blk_drewN ?_ _ | refine blk_drew ?_ | refine blk_alloc ?_ _)); exact BK248.out) hb); have n1_ := Aside0.mk (below_step (by repeat (first | (with_reducible first | exact HB.out | apply below_alloc | apply pw_below_drewN | apply below_drew1 | refine below_set ?_ GE248.out) | exact HB.out)) hb); clear BK248; clear HB; have BK248 := n0_; have HB := n1_; clear n0_ n1_; (try clear hb); (try clear hb2); (try clear hk); (try clear hi)))
               go_ret
               exact ⟨by first | rfl | (simp [errW_none, errW_some] <;> rfl) | (simp [*, errW_none, errW_some] <;> rfl), by repeat (first | (with_reducible first | exact HB.out | apply below_alloc | apply pw_below_drewN | apply below_drew1 | refine below_set ?_ GE248.out) | exact HB.out)⟩
             · rw [if_neg c13] at H
               exact absurd H (by simp)
           · replace c12 := Bool.eq_false_iff.mpr c12
             subst c12
             have H1 : (some false) = some r := by rw [if_neg (show ¬ (false = true) by decide)] at H; exact H
             clear H
             have H := H1
             clear H1
             obtain rfl := Option.some.inj H
             have hcz19_0 : wc.cell? ⟨gb248, 0, none⟩ = some (.int .i64 a0_0) := (blk_cell BK248.out 0).trans rfl
             have hcz19_1 : wc.cell? ⟨gb248, 1, none⟩ = some (.slice A0_1 l0_1.length c0_1) := (blk_cell BK248.out 1).trans rfl
             have hcz19_2 : wc.cell? ⟨gb248, 2, none⟩ = some (.slice A0_2 l0_2.length c0_2) := (blk_cell BK248.out 2).trans rfl
             have hcz19_3 : wc.cell? ⟨gb248, 3, none⟩ = some (.slice A0_3 l0_3.length c0_3) := (blk_cell BK248.out 3).trans rfl
             have hfz19_0 := blk_frozen BK248.out 0
             have hfz19_1 := blk_frozen BK248.out 1
             have hfz19_2 := blk_frozen BK248.out 2
             have hfz19_3 := blk_frozen BK248.out 3
             have p249 : 0 ≤ (0 : Int) := (by omega)
             have q249 : 0 < (l0_3.length : Int) := of_decide_eq_true (by first | (with_reducible assumption) | assumption)
             obtain ⟨ad249, A249_1, c249_1, A249_2, c249_2, A249_3, c249_3, e249, hx249_0, hx249_1, hx249_2, hx249_3, hl249_1, hi249_1, hl249_2, hi249_2, hl249_3, hi249_3⟩ := at_T37 HR0_3.out 0 p249 q249
             cases e249
             have qi249 : (0 < l0_3.length) = True := eq_true (by omega)
             (try rw [show ((0 : Int)).toNat = 0 from rfl] at hx249_0)
             (try rw [show 0 * 4 = 0 from rfl] at hx249_0)
             (try rw [Addr.add_zero'] at hx249_0)
             (try rw [show ((0 : Int)).toNat = 0 from rfl] at hx249_1)
             (try rw [show 0 * 4 = 0 from rfl] at hx249_1)
             (try rw [Addr.add_zero'] at hx249_1)
             (try rw [show ((0 : Int)).toNat = 0 from rfl] at hx249_2)
             (try rw [show 0 * 4 = 0 from rfl] at hx249_2)
             (try rw [Addr.add_zero'] at hx249_2)
             (try rw [show ((0 : Int)).toNat = 0 from rfl] at hx249_3)
             (try rw [show 0 * 4 = 0 from rfl] at hx249_3)
             (try rw [Addr.add_zero'] at hx249_3)
             replace hx249_0 := (HB.out.cell (World.block_lt_of_cell? w _ hx249_0)).trans hx249_0
             replace hx249_1 := (HB.out.cell (World.block_lt_of_cell? w _ hx249_1)).trans hx249_1
             replace hx249_2 := (HB.out.cell (World.block_lt_of_cell? w _ hx249_2)).trans hx249_2
             replace hx249_3 := (HB.out.cell (World.block_lt_of_cell? w _ hx249_3)).trans hx249_3
             have HR249_1 := Aside0.mk hi249_1
             have HC249_1 := Aside0.mk hl249_1
             clear hi249_1 hl249_1
             have HR249_2 := Aside0.mk hi249_2
             have HC249_2 := Aside0.mk hl249_2
             clear hi249_2 hl249_2
             have HR249_3 := Aside0.mk hi249_3
             have HC249_3 := Aside0.mk hl249_3
             clear hi249_3 hl249_3
             replace p249 := eq_true p249
             replace q249 := eq_true q249
             go_wp2_with (first | (go_at_call 12; (with_reducible refine (ih kj1 (by have := HJ1.out; omega) ((rd_T37 l0_3 0).f0) _ _ ((rd_T37 l0_3 0).f1) _ _ ((rd_T37 l0_3 0).f2) _ _ ((rd_T37 l0_3 0).f3) false _ ?side1 ?side2 ?side3 ?side4 ?side5 ?side6 A11.out).mono ?_); (case side1 => repeat (first | exact (Kd.C_below HR249_1.out HB.out) | (with_reducible refine Kd.C_alloc ?_ _) | (with_reducible refine Kd.C_drewN ?_ _) | (with_reducible refine Kd.C_drew ?_))); (case side2 => exact HC249_1.out); (case side3 => repeat (first | exact (Kd.C_below HR249_2.out HB.out) | (with_reducible refine Kd.C_alloc ?_ _) | (with_reducible refine Kd.C_drewN ?_ _) | (with_reducible refine Kd.C_drew ?_))); (case side4 => exact HC249_2.out); (case side5 => repeat (first | exact (Kd.C_below HR249_3.out HB.out) | (with_reducible refine Kd.C_alloc ?_ _) | (with_reducible refine Kd.C_drewN ?_ _) | (with_reducible refine Kd.C_drew ?_))); (case side6 => exact HC249_3.out); rintro e w20 ⟨rfl, hb⟩; have n0_ := Aside0.mk (blk_below (g := gb248) (o := .cells #[.int .i64 a0_0, .slice A0_1 l0_1.length c0_1, .slice A0_2 l0_2.length c0_2, .slice (some ad249) l0_3.length c0_3] 37 (0, 0)) (by (with_reducible repeat (first | refine blk_drewN ?_ _ | refine blk_drew ?_ | refine blk_alloc ?_ _)); exact BK248.out) hb); have n1_ := Aside0.mk (below_step (by repeat (first | (with_reducible first | exact HB.out | apply below_alloc | apply pw_below_drewN | apply below_drew1 | refine below_set ?_ GE248.out) | exact HB.out)) hb); clear BK248; clear HB; have BK248 := n0_; have HB := n1_; clear n0_ n1_; (try clear hb); (try clear hb2); (try clear hk); (try clear hi)))
             go_ret
             exact ⟨by first | rfl | (simp [errW_none, errW_some] <;> rfl) | (simp [*, errW_none, errW_some] <;> rfl), by repeat (first | (with_reducible first | exact HB.out | apply below_alloc | apply pw_below_drewN | apply below_drew1 | refine below_set ?_ GE248.out) | exact HB.out)⟩
         · rw [if_neg c10] at H
           exact absurd H (by simp)
       · rw [if_neg c9] at H
         have c9b0 : ((l0_3.length : Int) == 2) = false := beq_eq_false_iff_ne.mpr c9
         have c9b1 : ((l0_3.length : Int) != 2) = true := bne_iff_ne.mpr c9
         obtain rfl := Option.some.inj H
         have hcz21_0 : wc.cell? ⟨gb248, 0, none⟩ = some (.int .i64 a0_0) := (blk_cell BK248.out 0).trans rfl
         have hcz21_1 : wc.cell? ⟨gb248, 1, none⟩ = some (.slice A0_1 l0_1.length c0_1) := (blk_cell BK248.out 1).trans rfl
         have hcz21_2 : wc.cell? ⟨gb248, 2, none⟩ = some (.slice A0_2 l0_2.length c0_2) := (blk_cell BK248.out 2).trans rfl
         have hcz21_3 : wc.cell? ⟨gb248, 3, none⟩ = some (.slice A0_3 l0_3.length c0_3) := (blk_cell BK248.out 3).trans rfl
         have hfz21_0 := blk_frozen BK248.out 0
         have hfz21_1 := blk_frozen BK248.out 1
         have hfz21_2 := blk_frozen BK248.out 2
         have hfz21_3 := blk_frozen BK248.out 3
         go_wp2
         go_ret
         exact ⟨by first | rfl | (simp [errW_none, errW_some] <;> rfl) | (simp [*, errW_none, errW_some] <;> rfl), by repeat (first | (with_reducible first | exact HB.out | apply below_alloc | apply pw_below_drewN | apply below_drew1 | refine below_set ?_ GE248.out) | exact HB.out)⟩
     · rw [if_neg c8] at H
       have c8b0 : (a0_0 == 5) = false := beq_eq_false_iff_ne.mpr c8
       have c8b1 : (a0_0 != 5) = true := bne_iff_ne.mpr c8
       by_cases c22 : a0_0 = 6
       · rw [if_pos c22] at H
         have c22b0 : (a0_0 == 6) = true := beq_iff_eq.mpr c22
         have c22b1 : (a0_0 != 6) = false := bne_eq_false_iff_eq.mpr c22
         clear c22
         by_cases c23 : (l0_3.length : Int) = 2
         · rw [if_pos c23] at H
           have c23b0 : ((l0_3.length : Int) == 2) = true := beq_iff_eq.mpr c23
           have c23b1 : ((l0_3.length : Int) != 2) = false := bne_eq_false_iff_eq.mpr c23
           clear c23
           by_cases c24 : 0 < (l0_3.length : Int)
           · rw [if_pos c24] at H
             have c24b0 : decide (0 < (l0_3.length : Int)) = true := decide_eq_true c24
             have c24b1 : decide (0 < l0_3.length) = true := decide_eq_true (by omega)
             clear c24
             replace H := Option.bind_eq_some_iff.mp H
             obtain ⟨t254, A250, H⟩ := H
             replace H : (if t254 = true then (some true) else (if 1 < (l0_3.length : Int) then ((goboref11_Empty.f kj1 ((rd_T37 l0_3 1).f0) ((rd_T37 l0_3 1).f1) ((rd_T37 l0_3 1).f2) ((rd_T37 l0_3 1).f3)).bind fun t256 => (some t256)) else (none))) = some r := H
             have A25 := Aside0.mk A250
             clear A250
             by_cases c26 : t254 = true
             · subst c26
               have H1 : (some true) = some r := by rw [if_pos rfl] at H; exact H
               clear H
               have H := H1
               clear H1
               obtain rfl := Option.some.inj H
               have hcz27_0 : wc.cell? ⟨gb248, 0, none⟩ = some (.int .i64 a0_0) := (blk_cell BK248.out 0).trans rfl
               have hcz27_1 : wc.cell? ⟨gb248, 1, none⟩ = some (.slice A0_1 l0_1.length c0_1) := (blk_cell BK248.out 1).trans rfl
               have hcz27_2 : wc.cell? ⟨gb248, 2, none⟩ = some (.slice A0_2 l0_2.length c0_2) := (blk_cell BK248.out 2).trans rfl
               have hcz27_3 : wc.cell? ⟨gb248, 3, none⟩ = some (.slice A0_3 l0_3.length c0_3) := (blk_cell BK248.out 3).trans rfl
               have hfz27_0 := blk_frozen BK248.out 0
               have hfz27_1 := blk_frozen BK248.out 1
               have hfz27_2 := blk_frozen BK248.out 2
               have hfz27_3 := blk_frozen BK248.out 3
               have p253 : 0 ≤ (0 : Int) := (by omega)
               have q253 : 0 < (l0_3.length : Int) := of_decide_eq_true (by first | (with_reducible assumption) | assumption)
               obtain ⟨ad253, A253_1, c253_1, A253_2, c253_2, A253_3, c253_3, e253, hx253_0, hx253_1, hx253_2, hx253_3, hl253_1, hi253_1, hl253_2, hi253_2, hl253_3, hi253_3⟩ := at_T37 HR0_3.out 0 p253 q253
               cases e253
               have qi253 : (0 < l0_3.length) = True := eq_true (by omega)
               (try rw [show ((0 : Int)).toNat = 0 from rfl] at hx253_0)
               (try rw [show 0 * 4 = 0 from rfl] at hx253_0)
               (try rw [Addr.add_zero'] at hx253_0)
               (try rw [show ((0 : Int)).toNat = 0 from rfl] at hx253_1)
               (try rw [show 0 * 4 = 0 from rfl] at hx253_1)
               (try rw [Addr.add_zero'] at hx253_1)
               (try rw [show ((0 : Int)).toNat = 0 from rfl] at hx253_2)
               (try rw [show 0 * 4 = 0 from rfl] at hx253_2)
               (try rw [Addr.add_zero'] at hx253_2)
               (try rw [show ((0 : Int)).toNat = 0 from rfl] at hx253_3)
               (try rw [show 0 * 4 = 0 from rfl] at hx253_3)
               (try rw [Addr.add_zero'] at hx253_3)
               replace hx253_0 := (HB.out.cell (World.block_lt_of_cell? w _ hx253_0)).trans hx253_0
               replace hx253_1 := (HB.out.cell (World.block_lt_of_cell? w _ hx253_1)).trans hx253_1
               replace hx253_2 := (HB.out.cell (World.block_lt_of_cell? w _ hx253_2)).trans hx253_2
               replace hx253_3 := (HB.out.cell (World.block_lt_of_cell? w _ hx253_3)).trans hx253_3
               have HR253_1 := Aside0.mk hi253_1
               have HC253_1 := Aside0.mk hl253_1
               clear hi253_1 hl253_1
               have HR253_2 := Aside0.mk hi253_2
               have HC253_2 := Aside0.mk hl253_2
               clear hi253_2 hl253_2
               have HR253_3 := Aside0.mk hi253_3
               have HC253_3 := Aside0.mk hl253_3
               clear hi253_3 hl253_3
               replace p253 := eq_true p253
               replace q253 := eq_true q253
               go_wp2_with (first | (go_at_call 12; (with_reducible refine (ih kj1 (by have := HJ1.out; omega) ((rd_T37 l0_3 0).f0) _ _ ((rd_T37 l0_3 0).f1) _ _ ((rd_T37 l0_3 0).f2) _ _ ((rd_T37 l0_3 0).f3) true _ ?side1 ?side2 ?side3 ?side4 ?side5 ?side6 A25.out).mono ?_); (case side1 => repeat (first | exact (Kd.C_below HR253_1.out HB.out) | (with_reducible refine Kd.C_alloc ?_ _) | (with_reducible refine Kd.C_drewN ?_ _) | (with_reducible refine Kd.C_drew ?_))); (case side2 => exact HC253_1.out); (case side3 => repeat (first | exact (Kd.C_below HR253_2.out HB.out) | (with_reducible refine Kd.C_alloc ?_ _) | (with_reducible refine Kd.C_drewN ?_ _) | (with_reducible refine Kd.C_drew ?_))); (case side4 => exact HC253_2.out); (case side5 => repeat (first | exact (Kd.C_below HR253_3.out HB.out) | (with_reducible refine Kd.C_alloc ?_ _) | (with_reducible refine Kd.C_drewN ?_ _) | (with_reducible refine Kd.C_drew ?_))); (case side6 => exact HC253_3.out); rintro e w28 ⟨rfl, hb⟩; have n0_ := Aside0.mk (blk_below (g := gb248) (o := .cells #[.int .i64 a0_0, .slice A0_1 l0_1.length c0_1, .slice A0_2 l0_2.length c0_2, .slice (some ad253) l0_3.length c0_3] 37 (0, 0)) (by (with_reducible repeat (first | refine blk_drewN ?_ _ | refine blk_drew ?_ | refine blk_alloc ?_ _)); exact BK248.out) hb); have n1_ := Aside0.mk (below_step (by repeat (first | (with_reducible first | exact HB.out | apply below_alloc | apply pw_below_drewN | apply below_drew1 | refine below_set ?_ GE248.out) | exact HB.out)) hb); clear BK248; clear HB; have BK248 := n0_; have HB := n1_; clear n0_ n1_; (try clear hb); (try clear hb2); (try clear hk); (try clear hi)))
               go_ret
               exact ⟨by first | rfl | (simp [errW_none, errW_some] <;> rfl) | (simp [*, errW_none, errW_some] <;> rfl), by repeat (first | (with_reducible first | exact HB.out | apply below_alloc | apply pw_below_drewN | apply below_drew1 | refine below_set ?_ GE248.out) | exact HB.out)⟩
             · replace c26 := Bool.eq_false_iff.mpr c26
               subst c26
               have H1 : (if 1 < (l0_3.length : Int) then ((goboref11_Empty.f kj1 ((rd_T37 l0_3 1).f0) ((rd_T37 l0_3 1).f1) ((rd_T37 l0_3 1).f2) ((rd_T37 l0_3 1).f3)).bind fun t256 => (some t256)) else (none)) = some r := by rw [if_neg (show ¬ (false = true) by decide)] at H; exact H
               clear H
               have H := H1
               clear H1
               by_cases c29 : 1 < (l0_3.length : Int)
               · rw [if_pos c29] at H
                 have c29b0 : decide (1 < (l0_3.length : Int)) = true := decide_eq_true c29
                 have c29b1 : decide (1 < l0_3.length) = true := decide_eq_true (by omega)
                 clear c29
                 replace H := Option.bind_eq_some_iff.mp H
                 obtain ⟨t256, A300, H⟩ := H
                 replace H : (some t256) = some r := H
                 have A30 := Aside0.mk A300
                 clear A300
                 obtain rfl := Option.some.inj H
                 have hcz31_0 : wc.cell? ⟨gb248, 0, none⟩ = some (.int .i64 a0_0) := (blk_cell BK248.out 0).trans rfl
                 have hcz31_1 : wc.cell? ⟨gb248, 1, none⟩ = some (.slice A0_1 l0_1.length c0_1) := (blk_cell BK248.out 1).trans rfl
                 have hcz31_2 : wc.cell? ⟨gb248, 2, none⟩ = some (.slice A0_2 l0_2.length c0_2) := (blk_cell BK248.out 2).trans rfl
                 have hcz31_3 : wc.cell? ⟨gb248, 3, none⟩ = some (.slice A0_3 l0_3.length c0_3) := (blk_cell BK248.out 3).trans rfl
                 have hfz31_0 := blk_frozen BK248.out 0
                 have hfz31_1 := blk_frozen BK248.out 1
                 have hfz31_2 := blk_frozen BK248.out 2
                 have hfz31_3 := blk_frozen BK248.out 3
                 have p253 : 0 ≤ (0 : Int) := (by omega)
                 have q253 : 0 < (l0_3.length : Int) := of_decide_eq_true (by first | (with_reducible assumption) | assumption)
                 obtain ⟨ad253, A253_1, c253_1, A253_2, c253_2, A253_3, c253_3, e253, hx253_0, hx253_1, hx253_2, hx253_3, hl253_1, hi253_1, hl253_2, hi253_2, hl253_3, hi253_3⟩ := at_T37 HR0_3.out 0 p253 q253
                 cases e253
                 have qi253 : (0 < l0_3.length) = True := eq_true (by omega)
                 (try rw [show ((0 : Int)).toNat = 0 from rfl] at hx253_0)
                 (try rw [show 0 * 4 = 0 from rfl] at hx253_0)
                 (try rw [Addr.add_zero'] at hx253_0)
                 (try rw [show ((0 : Int)).toNat = 0 from rfl] at hx253_1)
                 (try rw [show 0 * 4 = 0 from rfl] at hx253_1)
                 (try rw [Addr.add_zero'] at hx253_1)
                 (try rw [show ((0 : Int)).toNat = 0 from rfl] at hx253_2)
                 (try rw [show 0 * 4 = 0 from rfl] at hx253_2)
                 (try rw [Addr.add_zero'] at hx253_2)
                 (try rw [show ((0 : Int)).toNat = 0 from rfl] at hx253_3)
                 (try rw [show 0 * 4 = 0 from rfl] at hx253_3)
                 (try rw [Addr.add_zero'] at hx253_3)
                 replace hx253_0 := (HB.out.cell (World.block_lt_of_cell? w _ hx253_0)).trans hx253_0
                 replace hx253_1 := (HB.out.cell (World.block_lt_of_cell? w _ hx253_1)).trans hx253_1
                 replace hx253_2 := (HB.out.cell (World.block_lt_of_cell? w _ hx253_2)).trans hx253_2
                 replace hx253_3 := (HB.out.cell (World.block_lt_of_cell? w _ hx253_3)).trans hx253_3
                 have HR253_1 := Aside0.mk hi253_1
                 have HC253_1 := Aside0.mk hl253_1
                 clear hi253_1 hl253_1
                 have HR253_2 := Aside0.mk hi253_2
                 have HC253_2 := Aside0.mk hl253_2
                 clear hi253_2 hl253_2
                 have HR253_3 := Aside0.mk hi253_3
                 have HC253_3 := Aside0.mk hl253_3
                 clear hi253_3 hl253_3
                 replace p253 := eq_true p253
                 replace q253 := eq_true q253
                 go_wp2_with (first | (go_at_call 12; (with_reducible refine (ih kj1 (by have := HJ1.out; omega) ((rd_T37 l0_3 0).f0) _ _ ((rd_T37 l0_3 0).f1) _ _ ((rd_T37 l0_3 0).f2) _ _ ((rd_T37 l0_3 0).f3) false _ ?side1 ?side2 ?side3 ?side4 ?side5 ?side6 A25.out).mono ?_); (case side1 => repeat (first | exact (Kd.C_below HR253_1.out HB.out) | (with_reducible refine Kd.C_alloc ?_ _) | (with_reducible refine Kd.C_drewN ?_ _) | (with_reducible refine Kd.C_drew ?_))); (case side2 => exact HC253_1.out); (case side3 => repeat (first | exact (Kd.C_below HR253_2.out HB.out) | (with_reducible refine Kd.C_alloc ?_ _) | (with_reducible refine Kd.C_drewN ?_ _) | (with_reducible refine Kd.C_drew ?_))); (case side4 => exact HC253_2.out); (case side5 => repeat (first | exact (Kd.C_below HR253_3.out HB.out) | (with_reducible refine Kd.C_alloc ?_ _) | (with_reducible refine Kd.C_drewN ?_ _) | (with_reducible refine Kd.C_drew ?_))); (case side6 => exact HC253_3.out); rintro e w32 ⟨rfl, hb⟩; have n0_ := Aside0.mk (blk_below (g := gb248) (o := .cells #[.int .i64 a0_0, .slice A0_1 l0_1.length c0_1, .slice A0_2 l0_2.length c0_2, .slice (some ad253) l0_3.length c0_3] 37 (0, 0)) (by (with_reducible repeat (first | refine blk_drewN ?_ _ | refine blk_drew ?_ | refine blk_alloc ?_ _)); exact BK248.out) hb); have n1_ := Aside0.mk (below_step (by repeat (first | (with_reducible first | exact HB.out | apply below_alloc | apply pw_below_drewN | apply below_drew1 | refine below_set ?_ GE248.out) | exact HB.out)) hb); clear BK248; clear HB; have BK248 := n0_; have HB := n1_; clear n0_ n1_; (try clear hb); (try clear hb2); (try clear hk); (try clear hi); have hcz33_0 : w32.cell? ⟨gb248, 0, none⟩ = some (.int .i64 a0_0) := (blk_cell BK248.out 0).trans rfl; have hcz33_1 : w32.cell? ⟨gb248, 1, none⟩ = some (.slice A0_1 l0_1.length c0_1) := (blk_cell BK248.out 1).trans rfl; have hcz33_2 : w32.cell? ⟨gb248, 2, none⟩ = some (.slice A0_2 l0_2.length c0_2) := (blk_cell BK248.out 2).trans rfl; have hcz33_3 : w32.cell? ⟨gb248, 3, none⟩ = some (.slice (some ad253) l0_3.length c0_3) := (blk_cell BK248.out 3).trans rfl; have hfz33_0 := blk_frozen BK248.out 0; have hfz33_1 := blk_frozen BK248.out 1; have hfz33_2 := blk_frozen BK248.out 2; have hfz33_3 := blk_frozen BK248.out 3; have p255 : 0 ≤ (1 : Int) := (by omega); have q255 : 1 < (l0_3.length : Int) := of_decide_eq_true (by first | (with_reducible assumption) | assumption); obtain ⟨ad255, A255_1, c255_1, A255_2, c255_2, A255_3, c255_3, e255, hx255_0, hx255_1, hx255_2, hx255_3, hl255_1, hi255_1, hl255_2, hi255_2, hl255_3, hi255_3⟩ := at_T37 HR0_3.out 1 p255 q255; obtain rfl : ad253 = ad255 := (by injection e255); (try simp only [show (1 : Int).toNat = 1 from rfl, Nat.reduceMul, Nat.reduceEqDiff, Go.Addr.add, ↓reduceIte] at hx255_0); (try simp only [show (1 : Int).toNat = 1 from rfl, Nat.reduceMul, Nat.reduceEqDiff, Go.Addr.add, ↓reduceIte] at hx255_1); (try simp only [show (1 : Int).toNat = 1 from rfl, Nat.reduceMul, Nat.reduceEqDiff, Go.Addr.add, ↓reduceIte] at hx255_2); (try simp only [show (1 : Int).toNat = 1 from rfl, Nat.reduceMul, Nat.reduceEqDiff, Go.Addr.add, ↓reduceIte] at hx255_3); have qi255 : (1 < l0_3.length) = True := eq_true (by omega); (try rw [show ((1 : Int)).toNat = 1 from rfl] at hx255_0); (try rw [show 1 * 4 = 4 from rfl] at hx255_0); (try rw [show ((1 : Int)).toNat = 1 from rfl] at hx255_1); (try rw [show 1 * 4 = 4 from rfl] at hx255_1); (try rw [show ((1 : Int)).toNat = 1 from rfl] at hx255_2); (try rw [show 1 * 4 = 4 from rfl] at hx255_2); (try rw [show ((1 : Int)).toNat = 1 from rfl] at hx255_3); (try rw [show 1 * 4 = 4 from rfl] at hx255_3); replace hx255_0 := (HB.out.cell (World.block_lt_of_cell? w _ hx255_0)).trans hx255_0; replace hx255_1 := (HB.out.cell (World.block_lt_of_cell? w _ hx255_1)).trans hx255_1; replace hx255_2 := (HB.out.cell (World.block_lt_of_cell? w _ hx255_2)).trans hx255_2; replace hx255_3 := (HB.out.cell (World.block_lt_of_cell? w _ hx255_3)).trans hx255_3; have HR255_1 := Aside0.mk hi255_1; have HC255_1 := Aside0.mk hl255_1; clear hi255_1 hl255_1; have HR255_2 := Aside0.mk hi255_2; have HC255_2 := Aside0.mk hl255_2; clear hi255_2 hl255_2; have HR255_3 := Aside0.mk hi255_3; have HC255_3 := Aside0.mk hl255_3; clear hi255_3 hl255_3; replace p255 := eq_true p255; replace q255 := eq_true q255) | (go_at_call 12; (with_reducible refine (ih kj1 (by have := HJ1.out; omega) ((rd_T37 l0_3 1).f0) _ _ ((rd_T37 l0_3 1).f1) _ _ ((rd_T37 l0_3 1).f2) _ _ ((rd_T37 l0_3 1).f3) t256 _ ?side1 ?side2 ?side3 ?side4 ?side5 ?side6 A30.out).mono ?_); (case side1 => repeat (first | exact (Kd.C_below HR255_1.out HB.out) | (with_reducible refine Kd.C_alloc ?_ _) | (with_reducible refine Kd.C_drewN ?_ _) | (with_reducible refine Kd.C_drew ?_))); (case side2 => exact HC255_1.out); (case side3 => repeat (first | exact (Kd.C_below HR255_2.out HB.out) | (with_reducible refine Kd.C_alloc ?_ _) | (with_reducible refine Kd.C_drewN ?_ _) | (with_reducible refine Kd.C_drew ?_))); (case side4 => exact HC255_2.out); (case side5 => repeat (first | exact (Kd.C_below HR255_3.out HB.out) | (with_reducible refine Kd.C_alloc ?_ _) | (with_reducible refine Kd.C_drewN ?_ _) | (with_reducible refine Kd.C_drew ?_))); (case side6 => exact HC255_3.out); rintro e w34 ⟨rfl, hb⟩; have n0_ := Aside0.mk (blk_below (g := gb248) (o := .cells #[.int .i64 a0_0, .slice A0_1 l0_1.length c0_1, .slice A0_2 l0_2.length c0_2, .slice (some ad253) l0_3.length c0_3] 37 (0, 0)) (by (with_reducible repeat (first | refine blk_drewN ?_ _ | refine blk_drew ?_ | refine blk_alloc ?_ _)); exact BK248.out) hb); have n1_ := Aside0.mk (below_step (by repeat (first | (with_reducible first | exact HB.out | apply below_alloc | apply pw_below_drewN | apply below_drew1 | refine below_set ?_ GE248.out) | exact HB.out)) hb); clear BK248; clear HB; have BK248 := n0_; have HB := n1_; clear n0_ n1_; (try clear hb); (try clear hb2); (try clear hk); (try clear hi)))
                 go_ret
                 exact ⟨by first | rfl | (simp [errW_none, errW_some] <;> rfl) | (simp [*, errW_none, errW_some] <;> rfl), by repeat (first | (with_reducible first | exact HB.out | apply below_alloc | apply pw_below_drewN | apply below_drew1 | refine below_set ?_ GE248.out) | exact HB.out)⟩
               · rw [if_neg c29] at H
                 exact absurd H (by simp)
           · rw [if_neg c24] at H
             exact absurd H (by simp)
         · rw [if_neg c23] at H
           have c23b0 : ((l0_3.length : Int) == 2) = false := beq_eq_false_iff_ne.mpr c23
           have c23b1 : ((l0_3.length : Int) != 2) = true := bne_iff_ne.mpr c23
           obtain rfl := Option.some.inj H
           have hcz35_0 : wc.cell? ⟨gb248, 0, none⟩ = some (.int .i64 a0_0) := (blk_cell BK248.out 0).trans rfl
           have hcz35_1 : wc.cell? ⟨gb248, 1, none⟩ = some (.slice A0_1 l0_1.length c0_1) := (blk_cell BK248.out 1).trans rfl
           have hcz35_2 : wc.cell? ⟨gb248, 2, none⟩ = some (.slice A0_2 l0_2.length c0_2) := (blk_cell BK248.out 2).trans rfl
           have hcz35_3 : wc.cell? ⟨gb248, 3, none⟩ = some (.slice A0_3 l0_3.length c0_3) := (blk_cell BK248.out 3).trans rfl
           have hfz35_0 := blk_frozen BK248.out 0
           have hfz35_1 := blk_frozen BK248.out 1
           have hfz35_2 := blk_frozen BK248.out 2
           have hfz35_3 := blk_frozen BK248.out 3
           go_wp2
           go_ret
           exact ⟨by first | rfl | (simp [errW_none, errW_some] <;> rfl) | (simp [*, errW_none, errW_some] <;> rfl), by repeat (first | (with_reducible first | exact HB.out | apply below_alloc | apply pw_below_drewN | apply below_drew1 | refine below_set ?_ GE248.out) | exact HB.out)⟩
       · rw [if_neg c22] at H
         have c22b0 : (a0_0 == 6) = false := beq_eq_false_iff_ne.mpr c22
         have c22b1 : (a0_0 != 6) = true := bne_iff_ne.mpr c22
         obtain rfl := Option.some.inj H
         go_wp2
         go_ret
         exact ⟨by first | rfl | (simp [errW_none, errW_some] <;> rfl) | (simp [*, errW_none, errW_some] <;> rfl), by repeat (first | (with_reducible first | exact HB.out | apply below_alloc | apply pw_below_drewN | apply below_drew1 | refine below_set ?_ GE248.out) | exact HB.out)⟩
def goboref11_texts.l0 : Nat → List ByteArray → List ByteArray → Int → Option (Bool)
 | 0, _, _, _ => none
 | k + 1, x0, x1, x5 => if x5 < (x0.length : Int) then (if 0 ≤ x5 then (if x5 < (x1.length : Int) then (if (rdOf ByteArray.empty x0 x5).toList = (rdOf ByteArray.empty x1 x5).toList then (goboref11_texts.l0 k x0 x1 (wrap64 (x5 + 1))) else (some false)) else (none)) else (none)) else (some true)
def goboref11_texts.f (k : Nat) (l0 : List ByteArray) (l1 : List ByteArray) : Option (Bool) := if (l0.length : Int) = (l1.length : Int) then (goboref11_texts.l0 k l0 l1 0) else (some false)
theorem goboref11_texts.mono_l : ∀ k, (∀ y0 y1 y2, LeO (goboref11_texts.l0 k y0 y1 y2) (goboref11_texts.l0 (k + 1) y0 y1 y2))
 | 0 => fun _ _ _ r h => by simp [goboref11_texts.l0] at h
 | k + 1 => by
  have ih0 := goboref11_texts.mono_l k
  · intro y0 y1 y2
    unfold goboref11_texts.l0
    repeat' first
    | (with_reducible exact ih0 _ _ _)
    | (with_reducible exact LeO.refl _)
    | (with_reducible exact LeO.none _)
    | (with_reducible refine LeO.ite ?_ ?_)
    | (with_reducible refine LeO.bind ?_ (fun _ => ?_))
    | exact ih0 _ _ _
    | exact LeO.none _
    | refine LeO.ite ?_ ?_
    | refine LeO.bind ?_ (fun _ => ?_)
theorem goboref11_texts.mono : ∀ a0 a1 k, LeO (goboref11_texts.f k a0 a1) (goboref11_texts.f (k + 1) a0 a1) := by
 intro a0 a1 k
 have ih0 := goboref11_texts.mono_l k
 unfold goboref11_texts.f
 repeat' first
  | (with_reducible exact ih0 _ _ _)
  | (with_reducible exact LeO.refl _)
  | (with_reducible exact LeO.none _)
  | (with_reducible refine LeO.ite ?_ ?_)
  | (with_reducible refine LeO.bind ?_ (fun _ => ?_))
  | exact ih0 _ _ _
  | exact LeO.none _
  | refine LeO.ite ?_ ?_
  | refine LeO.bind ?_ (fun _ => ?_)
set_option maxHeartbeats 8000000 in
set_option maxRecDepth 100000 in
theorem goboref11_texts.calls (k : Nat) (A0 : Option Addr) (c0 : Nat) (l0 : List ByteArray) (A1 : Option Addr) (c1 : Nat) (l1 : List ByteArray) (r : Bool) (w : World) (hr0 : Kd.C Kd.string w A0 l0.length l0) (hc0 : l0.length ≤ c0) (hr1 : Kd.C Kd.string w A1 l1.length l1) (hc1 : l1.length ≤ c1) (h : goboref11_texts.f k l0 l1 = some r) :
 Calls Tryd.prog 26 #[.slice A0 l0.length c0, .slice A1 l1.length c1] w fun e w' => e = .returned (.bool r) ∧ Drawn0 w w' := by
 have HR0 := Aside0.mk hr0
 have HC0 := Aside0.mk hc0
 clear hr0 hc0
 have HR1 := Aside0.mk hr1
 have HC1 := Aside0.mk hc1
 clear hr1 hc1
 have H : (if (l0.length : Int) = (l1.length : Int) then (goboref11_texts.l0 k l0 l1 0) else (some false)) = some r := h
 clear h
 by_cases c3 : (l0.length : Int) = (l1.length : Int)
 · rw [if_pos c3] at H
   have c3b0 : ((l0.length : Int) == (l1.length : Int)) = true := beq_iff_eq.mpr c3
   have c3b1 : ((l0.length : Int) != (l1.length : Int)) = false := bne_eq_false_iff_eq.mpr c3
   have c3b2 : (l0.length == l1.length) = true := by first | simpa using c3 | (simp at c3 ⊢; omega)
   clear c3
   have H' := Aside0.mk H
   clear H
   go_enter Tryd.func26, Tryd.ntmps26
   go_wp2
   repeat (go_quiet (fail); try go_wp2)
   go_loopg [5] k (fun kq v5 w' => ∃ (x5_1 : Int), v5 = .int .i64 x5_1 ∧ Aside0 (goboref11_texts.l0 kq l0 l1 x5_1 = some r) ∧ Aside0 (kq ≤ k) ∧ Drawn0 w w')
   case atStart => exact ⟨(0), (by first | rfl | (simp; done) | (simp [*]; done)), H', ⟨Nat.le_refl _⟩, by repeat (first | exact Drawn0.refl _ | apply Drawn0.step)⟩
   case round =>
    clear H'
    try clear c1
    try clear c2
    try clear p2
    try clear c3
    try clear c3b0
    try clear c3b1
    try clear c3b2
    obtain ⟨x5_1, rfl, HA, HK1, ⟨m1, rfl⟩⟩ := hrel
    cases gk with
    | zero => exact absurd HA.out (by simp [goboref11_texts.l0])
    | succ k1 =>
     have H := HA.out
     clear HA
     simp only [goboref11_texts.l0] at H
     by_cases c4 : x5_1 < (l0.length : Int)
     · rw [if_pos c4] at H
       have c4b0 : decide (x5_1 < (l0.length : Int)) = true := decide_eq_true c4
       clear c4
       by_cases c5 : 0 ≤ x5_1
       · rw [if_pos c5] at H
         have c5b0 : decide (0 ≤ x5_1) = true := decide_eq_true c5
         clear c5
         by_cases c6 : x5_1 < (l1.length : Int)
         · rw [if_pos c6] at H
           have c6b0 : decide (x5_1 < (l1.length : Int)) = true := decide_eq_true c6
           clear c6
           by_cases c7 : (rdOf ByteArray.empty l0 x5_1).toList = (rdOf ByteArray.empty l1 x5_1).toList
           · rw [if_pos c7] at H
             have c7b0 : ((rdOf ByteArray.empty l0 x5_1).toList == (rdOf ByteArray.empty l1 x5_1).toList) = true := beq_iff_eq.mpr c7
             have c7b1 : ((rdOf ByteArray.empty l0 x5_1).toList != (rdOf ByteArray.empty l1 x5_1).toList) = false := bne_eq_false_iff_eq.mpr c7
             clear c7
             have H' := Aside0.mk H
             clear H
             have p260 : 0 ≤ (x5_1 : Int) := of_decide_eq_true (by first | (with_reducible assumption) | assumption)
             have q260 : x5_1 < (l0.length : Int) := of_decide_eq_true (by first | (with_reducible assumption) | assumption)
             obtain ⟨ad260, e260, hx260_0⟩ := Kd.at_string HR0.out x5_1 p260 q260
             cases e260
             replace p260 := eq_true p260
             replace q260 := eq_true q260
             have p261 : 0 ≤ (x5_1 : Int) := of_decide_eq_true (by first | (with_reducible assumption) | assumption)
             have q261 : x5_1 < (l1.length : Int) := of_decide_eq_true (by first | (with_reducible assumption) | assumption)
             obtain ⟨ad261, e261, hx261_0⟩ := Kd.at_string HR1.out x5_1 p261 q261
             cases e261
             replace p261 := eq_true p261
             replace q261 := eq_true q261
             go_wp2
             repeat (go_quiet (fail); try go_wp2)
             go_roundg k1
             case measure => have := HK1.out; omega
             case rel => exact ⟨(wrap64 (x5_1 + 1)), (by first | rfl | (simp; done) | (simp [*]; done)), H', ⟨by have := HK1.out; omega⟩, by repeat (first | exact Drawn0.refl _ | apply Drawn0.step)⟩
           · rw [if_neg c7] at H
             have c7b0 : ((rdOf ByteArray.empty l0 x5_1).toList == (rdOf ByteArray.empty l1 x5_1).toList) = false := beq_eq_false_iff_ne.mpr c7
             have c7b1 : ((rdOf ByteArray.empty l0 x5_1).toList != (rdOf ByteArray.empty l1 x5_1).toList) = true := bne_iff_ne.mpr c7
             obtain rfl := Option.some.inj H
             have p260 : 0 ≤ (x5_1 : Int) := of_decide_eq_true (by first | (with_reducible assumption) | assumption)
             have q260 : x5_1 < (l0.length : Int) := of_decide_eq_true (by first | (with_reducible assumption) | assumption)
             obtain ⟨ad260, e260, hx260_0⟩ := Kd.at_string HR0.out x5_1 p260 q260
             cases e260
             replace p260 := eq_true p260
             replace q260 := eq_true q260
             have p261 : 0 ≤ (x5_1 : Int) := of_decide_eq_true (by first | (with_reducible assumption) | assumption)
             have q261 : x5_1 < (l1.length : Int) := of_decide_eq_true (by first | (with_reducible assumption) | assumption)
             obtain ⟨ad261, e261, hx261_0⟩ := Kd.at_string HR1.out x5_1 p261 q261
             cases e261
             replace p261 := eq_true p261
             replace q261 := eq_true q261
             go_wp2
             repeat (go_quiet (fail); try go_wp2)
             go_ret
             exact ⟨by first | rfl | (simp; done) | (simp [*]; done), by repeat (first | exact Drawn0.refl _ | apply Drawn0.step)⟩
         · rw [if_neg c6] at H
           exact absurd H (by simp)
       · rw [if_neg c5] at H
         exact absurd H (by simp)
     · rw [if_neg c4] at H
       have c4b0 : decide (x5_1 < (l0.length : Int)) = false := decide_eq_false c4
       clear c4
       obtain rfl := Option.some.inj H
       go_wp2
       repeat (go_quiet (fail); try go_wp2)
       go_ret
       exact ⟨by first | rfl | (simp; done) | (simp [*]; done), by repeat (first | exact Drawn0.refl _ | apply Drawn0.step)⟩
 · rw [if_neg c3] at H
   have c3b0 : ((l0.length : Int) == (l1.length : Int)) = false := beq_eq_false_iff_ne.mpr c3
   have c3b1 : ((l0.length : Int) != (l1.length : Int)) = true := bne_iff_ne.mpr c3
   have c3b2 : (l0.length == l1.length) = false := by first | simpa using c3 | (simp at c3 ⊢; omega)
   obtain rfl := Option.some.inj H
   go_enter Tryd.func26, Tryd.ntmps26
   go_wp2
   repeat (go_quiet (fail); try go_wp2)
   go_ret
   exact ⟨by first | rfl | (simp; done) | (simp [*]; done), by repeat (first | exact Drawn0.refl _ | apply Drawn0.step)⟩
mutual
def goboref11_SamePat.j0 : Nat → Bool → Int → List ByteArray → List ByteArray → List (S37) → Int → List ByteArray → List ByteArray → List (S37) → Option (Bool)
 | 0, _, _, _, _, _, _, _, _, _ => none
 | k + 1, x35, x263000, x263001, x263002, x263003, x264000, x264001, x264002, x264003 => if x35 = true then (some false) else (goboref11_SamePat.l0 k 0 x263000 x263001 x263002 x263003 x264000 x264001 x264002 x264003)
def goboref11_SamePat.l0 : Nat → Int → Int → List ByteArray → List ByteArray → List (S37) → Int → List ByteArray → List ByteArray → List (S37) → Option (Bool)
 | 0, _, _, _, _, _, _, _, _, _ => none
 | k + 1, x5, x263000, x263001, x263002, x263003, x264000, x264001, x264002, x264003 => if x5 < (x263003.length : Int) then (if 0 ≤ x5 then (if x5 < (x264003.length : Int) then ((goboref11_SamePat.f k ((rd_T37 x263003 x5).f0) ((rd_T37 x263003 x5).f1) ((rd_T37 x263003 x5).f2) ((rd_T37 x263003 x5).f3) ((rd_T37 x264003 x5).f0) ((rd_T37 x264003 x5).f1) ((rd_T37 x264003 x5).f2) ((rd_T37 x264003 x5).f3)).bind fun t268 => (if t268 = true then (goboref11_SamePat.l0 k (wrap64 (x5 + 1)) x263000 x263001 x263002 x263003 x264000 x264001 x264002 x264003) else (some false))) else (none)) else (none)) else (some true)
def goboref11_SamePat.f : Nat → Int → List ByteArray → List ByteArray → List (S37) → Int → List ByteArray → List ByteArray → List (S37) → Option (Bool)
 | 0, _, _, _, _, _, _, _, _ => none
 | k + 1, a0_0, l0_1, l0_2, l0_3, a1_0, l1_1, l1_2, l1_3 => if a0_0 = a1_0 then (if (l0_3.length : Int) = (l1_3.length : Int) then ((goboref11_texts.f k l0_1 l1_1).bind fun t264 => (if t264 = true then ((goboref11_texts.f k l0_2 l1_2).bind fun t265 => (goboref11_SamePat.j0 k (!t265) a0_0 l0_1 l0_2 l0_3 a1_0 l1_1 l1_2 l1_3)) else (goboref11_SamePat.j0 k true a0_0 l0_1 l0_2 l0_3 a1_0 l1_1 l1_2 l1_3))) else (goboref11_SamePat.j0 k true a0_0 l0_1 l0_2 l0_3 a1_0 l1_1 l1_2 l1_3)) else (goboref11_SamePat.j0 k true a0_0 l0_1 l0_2 l0_3 a1_0 l1_1 l1_2 l1_3)
end
theorem goboref11_SamePat.mono_l : ∀ k, (∀ y0 y1 y2 y3 y4 y5 y6 y7, LeO (goboref11_SamePat.f k y0 y1 y2 y3 y4 y5 y6 y7) (goboref11_SamePat.f (k + 1) y0 y1 y2 y3 y4 y5 y6 y7)) ∧ (∀ y0 y1 y2 y3 y4 y5 y6 y7 y8, LeO (goboref11_SamePat.j0 k y0 y1 y2 y3 y4 y5 y6 y7 y8) (goboref11_SamePat.j0 (k + 1) y0 y1 y2 y3 y4 y5 y6 y7 y8)) ∧ (∀ y0 y1 y2 y3 y4 y5 y6 y7 y8, LeO (goboref11_SamePat.l0 k y0 y1 y2 y3 y4 y5 y6 y7 y8) (goboref11_SamePat.l0 (k + 1) y0 y1 y2 y3 y4 y5 y6 y7 y8))
 | 0 => ⟨fun _ _ _ _ _ _ _ _ r h => by simp [goboref11_SamePat.f] at h, fun _ _ _ _ _ _ _ _ _ r h => by simp [goboref11_SamePat.j0] at h, fun _ _ _ _ _ _ _ _ _ r h => by simp [goboref11_SamePat.l0] at h⟩
 | k + 1 => by
  obtain ⟨ih0, ih1, ih2⟩ := goboref11_SamePat.mono_l k
  refine ⟨?_, ?_, ?_⟩
  · intro y0 y1 y2 y3 y4 y5 y6 y7
    unfold goboref11_SamePat.f
    repeat' first
    | (with_reducible exact ih0 _ _ _ _ _ _ _ _)
    | (with_reducible exact ih1 _ _ _ _ _ _ _ _ _)
    | (with_reducible exact ih2 _ _ _ _ _ _ _ _ _)
    | (with_reducible exact goboref11_texts.mono _ _ _)
    | (with_reducible exact LeO.refl _)
    | (with_reducible exact LeO.none _)
    | (with_reducible refine LeO.ite ?_ ?_)
    | (with_reducible refine LeO.bind ?_ (fun _ => ?_))
    | exact ih0 _ _ _ _ _ _ _ _
    | exact ih1 _ _ _ _ _ _ _ _ _
    | exact ih2 _ _ _ _ _ _ _ _ _
    | exact goboref11_texts.mono _ _ _
    | exact LeO.none _
    | refine LeO.ite ?_ ?_
    | refine LeO.bind ?_ (fun _ => ?_)
  · intro y0 y1 y2 y3 y4 y5 y6 y7 y8
    unfold goboref11_SamePat.j0
    repeat' first
    | (with_reducible exact ih0 _ _ _ _ _ _ _ _)
    | (with_reducible exact ih1 _ _ _ _ _ _ _ _ _)
    | (with_reducible exact ih2 _ _ _ _ _ _ _ _ _)
    | (with_reducible exact goboref11_texts.mono _ _ _)
    | (with_reducible exact LeO.refl _)
    | (with_reducible exact LeO.none _)
    | (with_reducible refine LeO.ite ?_ ?_)
    | (with_reducible refine LeO.bind ?_ (fun _ => ?_))
    | exact ih0 _ _ _ _ _ _ _ _
    | exact ih1 _ _ _ _ _ _ _ _ _
    | exact ih2 _ _ _ _ _ _ _ _ _
    | exact goboref11_texts.mono _ _ _
    | exact LeO.none _
    | refine LeO.ite ?_ ?_
    | refine LeO.bind ?_ (fun _ => ?_)
  · intro y0 y1 y2 y3 y4 y5 y6 y7 y8
    unfold goboref11_SamePat.l0
    repeat' first
    | (with_reducible exact ih0 _ _ _ _ _ _ _ _)
    | (with_reducible exact ih1 _ _ _ _ _ _ _ _ _)
    | (with_reducible exact ih2 _ _ _ _ _ _ _ _ _)
    | (with_reducible exact goboref11_texts.mono _ _ _)
    | (with_reducible exact LeO.refl _)
    | (with_reducible exact LeO.none _)
    | (with_reducible refine LeO.ite ?_ ?_)
    | (with_reducible refine LeO.bind ?_ (fun _ => ?_))
    | exact ih0 _ _ _ _ _ _ _ _
    | exact ih1 _ _ _ _ _ _ _ _ _
    | exact ih2 _ _ _ _ _ _ _ _ _
    | exact goboref11_texts.mono _ _ _
    | exact LeO.none _
    | refine LeO.ite ?_ ?_
    | refine LeO.bind ?_ (fun _ => ?_)
theorem goboref11_SamePat.mono : ∀ a0 a1 a2 a3 a4 a5 a6 a7 k, LeO (goboref11_SamePat.f k a0 a1 a2 a3 a4 a5 a6 a7) (goboref11_SamePat.f (k + 1) a0 a1 a2 a3 a4 a5 a6 a7) := by
 intro a0 a1 a2 a3 a4 a5 a6 a7 k
 obtain ⟨ih0, ih1, ih2⟩ := goboref11_SamePat.mono_l k
 exact ih0 a0 a1 a2 a3 a4 a5 a6 a7
def goboref11_SamePat.T6 : Bool × List (List Nat × List Nat) := (true, [([], []), ([0], [0]), ([], []), ([1, 2], [1, 2]), ([3], [3]), ([], []), ([5], [5]), ([], []), ([6, 7], [6, 7]), ([8], [8]), ([4, 9], [4, 9]), ([10], [10])])
def goboref11_SamePat.B6 : List Nat := [0, 1, 0, 7, 15, 0, 32, 0, 224, 480, 1023, 2047]
theorem goboref11_SamePat.tab6 : rtab .any (opsOf Tryd.f14 6) = goboref11_SamePat.T6 := by kernel_rfl
theorem goboref11_SamePat.bits6 : waitsOk goboref11_SamePat.T6.2 goboref11_SamePat.B6 = true := by kernel_rfl
set_option maxHeartbeats 8000000 in
set_option maxRecDepth 100000 in
theorem goboref11_SamePat.calls (k : Nat) : ∀ (a0_0 : Int) (A0_1 : Option Addr) (c0_1 : Nat) (l0_1 : List ByteArray) (A0_2 : Option Addr) (c0_2 : Nat) (l0_2 : List ByteArray) (A0_3 : Option Addr) (c0_3 : Nat) (l0_3 : List (S37)) (a1_0 : Int) (A1_1 : Option Addr) (c1_1 : Nat) (l1_1 : List ByteArray) (A1_2 : Option Addr) (c1_2 : Nat) (l1_2 : List ByteArray) (A1_3 : Option Addr) (c1_3 : Nat) (l1_3 : List (S37)) (r : Bool) (w : World) (hr0_1 : Kd.C Kd.string w A0_1 l0_1.length l0_1) (hc0_1 : l0_1.length ≤ c0_1) (hr0_2 : Kd.C Kd.string w A0_2 l0_2.length l0_2) (hc0_2 : l0_2.length ≤ c0_2) (hr0_3 : Kd.C k37 w A0_3 l0_3.length l0_3) (hc0_3 : l0_3.length ≤ c0_3) (hr1_1 : Kd.C Kd.string w A1_1 l1_1.length l1_1) (hc1_1 : l1_1.length ≤ c1_1) (hr1_2 : Kd.C Kd.string w A1_2 l1_2.length l1_2) (hc1_2 : l1_2.length ≤ c1_2) (hr1_3 : Kd.C k37 w A1_3 l1_3.length l1_3) (hc1_3 : l1_3.length ≤ c1_3) (h : goboref11_SamePat.f k a0_0 l0_1 l0_2 l0_3 a1_0 l1_1 l1_2 l1_3 = some r),
 Calls Tryd.prog 14 #[.agg #[.int .i64 a0_0, .slice A0_1 l0_1.length c0_1, .slice A0_2 l0_2.length c0_2, .slice A0_3 l0_3.length c0_3], .agg #[.int .i64 a1_0, .slice A1_1 l1_1.length c1_1, .slice A1_2 l1_2.length c1_2, .slice A1_3 l1_3.length c1_3]] w fun e w' => e = .returned (.bool r) ∧ Below w.heap.size w w' := by
 induction k using Nat.strongRecOn with
 | _ k ih =>
 intro a0_0 A0_1 c0_1 l0_1 A0_2 c0_2 l0_2 A0_3 c0_3 l0_3 a1_0 A1_1 c1_1 l1_1 A1_2 c1_2 l1_2 A1_3 c1_3 l1_3 r w hr0_1 hc0_1 hr0_2 hc0_2 hr0_3 hc0_3 hr1_1 hc1_1 hr1_2 hc1_2 hr1_3 hc1_3 h
 cases k with
 | zero => exact absurd h (by simp [goboref11_SamePat.f])
 | succ k =>
 simp only [goboref11_SamePat.f] at h
 have hu37 := Tryd.underlying37
 have HR0_1 := Aside0.mk hr0_1
 have HC0_1 := Aside0.mk hc0_1
 clear hr0_1 hc0_1
 have HR0_2 := Aside0.mk hr0_2
 have HC0_2 := Aside0.mk hc0_2
 clear hr0_2 hc0_2
 have HR0_3 := Aside0.mk hr0_3
 have HC0_3 := Aside0.mk hc0_3
 clear hr0_3 hc0_3
 have HR1_1 := Aside0.mk hr1_1
 have HC1_1 := Aside0.mk hc1_1
 clear hr1_1 hc1_1
 have HR1_2 := Aside0.mk hr1_2
 have HC1_2 := Aside0.mk hc1_2
 clear hr1_2 hc1_2
 have HR1_3 := Aside0.mk hr1_3
 have HC1_3 := Aside0.mk hc1_3
 clear hr1_3 hc1_3
 have HB := Aside0.mk (Below.refl w.heap.size w)
 have H : (if a0_0 = a1_0 then (if (l0_3.length : Int) = (l1_3.length : Int) then ((goboref11_texts.f k l0_1 l1_1).bind fun t264 => (if t264 = true then ((goboref11_texts.f k l0_2 l1_2).bind fun t265 => (goboref11_SamePat.j0 k (!t265) a0_0 l0_1 l0_2 l0_3 a1_0 l1_1 l1_2 l1_3)) else (goboref11_SamePat.j0 k true a0_0 l0_1 l0_2 l0_3 a1_0 l1_1 l1_2 l1_3))) else (goboref11_SamePat.j0 k true a0_0 l0_1 l0_2 l0_3 a1_0 l1_1 l1_2 l1_3)) else (goboref11_SamePat.j0 k true a0_0 l0_1 l0_2 l0_3 a1_0 l1_1 l1_2 l1_3)) = some r := h
 clear h
 have HC3 := Aside0.mk H
 clear H
 go_enter Tryd.func14, Tryd.ntmps14
 go_upto_region 1 with (first | ((with_reducible refine gate_dst (N := 2) rfl ?_); (try (refine gate_guard (by rfl) ?_; dsimp only)); refine box_event ?hg (N := 2) ?hd (cs := #[.int .i64 a0_0, .slice A0_1 l0_1.length c0_1, .slice A0_2 l0_2.length c0_2, .slice A0_3 l0_3.length c0_3]) (t := 37) ?hr ?_; (case hd => rfl); (case hg => rfl); (case hr => first | (go_simp; done) | (go_simp; rfl)); intro gb262 hg w4 hbox hb; have n0_ := Aside0.mk (below_step (by repeat (first | (with_reducible first | exact HB.out | apply below_alloc | apply pw_below_drewN | apply below_drew1) | exact HB.out)) hb); have n1_ := Aside0.mk (hbox); have n2_ := Aside0.mk ((by rw [hg]; exact (below_size (by repeat (first | (with_reducible first | exact HB.out | apply below_alloc | apply pw_below_drewN | apply below_drew1) | exact HB.out))) : w.heap.size ≤ gb262)); have n3_ := Aside0.mk ((by rw [hg]; exact (below_size (by repeat (first | (with_reducible first | exact HB.out | apply below_alloc | apply pw_below_drewN | apply below_drew1) | exact HB.out))) : w.heap.size ≤ gb262)); clear HB; have HB := n0_; have BK262 := n1_; have GW262 := n2_; have GE262 := n3_; clear n0_ n1_ n2_ n3_; clear hb hbox hg) | ((with_reducible refine gate_dst (N := 3) rfl ?_); (try (refine gate_guard (by rfl) ?_; dsimp only)); refine box_event ?hg (N := 3) ?hd (cs := #[.int .i64 a1_0, .slice A1_1 l1_1.length c1_1, .slice A1_2 l1_2.length c1_2, .slice A1_3 l1_3.length c1_3]) (t := 37) ?hr ?_; (case hd => rfl); (case hg => rfl); (case hr => first | (go_simp; done) | (go_simp; rfl)); intro gb263 hg w5 hbox hb; have n0_ := Aside0.mk (blk_below (g := gb262) (o := .cells #[.int .i64 a0_0, .slice A0_1 l0_1.length c0_1, .slice A0_2 l0_2.length c0_2, .slice A0_3 l0_3.length c0_3] 37 (0, 0)) (by (with_reducible repeat (first | refine blk_drewN ?_ _ | refine blk_drew ?_ | refine blk_alloc ?_ _)); exact BK262.out) hb); have n1_ := Aside0.mk (below_step (by repeat (first | (with_reducible first | exact HB.out | apply below_alloc | apply pw_below_drewN | apply below_drew1 | refine below_set ?_ GE262.out) | exact HB.out)) hb); have n2_ := Aside0.mk (hbox); have n3_ := Aside0.mk ((by rw [hg]; exact (below_size (by repeat (first | (with_reducible first | exact HB.out | apply below_alloc | apply pw_below_drewN | apply below_drew1 | refine below_set ?_ GE262.out) | exact HB.out))) : w.heap.size ≤ gb263)); have n4_ := Aside0.mk ((by rw [hg]; exact (below_size (by repeat (first | (with_reducible first | exact HB.out | apply below_alloc | apply pw_below_drewN | apply below_drew1 | refine below_set ?_ GE262.out) | exact HB.out))) : w.heap.size ≤ gb263)); have n5_ := Aside0.mk ((by rw [hg]; exact Nat.ne_of_lt (blk_lt (g := gb262) (o := .cells #[.int .i64 a0_0, .slice A0_1 l0_1.length c0_1, .slice A0_2 l0_2.length c0_2, .slice A0_3 l0_3.length c0_3] 37 (0, 0)) (by (with_reducible repeat (first | refine blk_drewN ?_ _ | refine blk_drew ?_ | refine blk_alloc ?_ _)); exact BK262.out)) : gb262 ≠ gb263)); have n6_ := Aside0.mk ((by rw [hg]; exact Nat.ne_of_gt (blk_lt (g := gb262) (o := .cells #[.int .i64 a0_0, .slice A0_1 l0_1.length c0_1, .slice A0_2 l0_2.length c0_2, .slice A0_3 l0_3.length c0_3] 37 (0, 0)) (by (with_reducible repeat (first | refine blk_drewN ?_ _ | refine blk_drew ?_ | refine blk_alloc ?_ _)); exact BK262.out)) : gb263 ≠ gb262)); clear BK262; clear HB; have BK262 := n0_; have HB := n1_; have BK263 := n2_; have GW263 := n3_; have GE263 := n4_; have NB262_263 := n5_; have NB263_262 := n6_; clear n0_ n1_ n2_ n3_ n4_ n5_ n6_; clear hb hbox hg))
 (try simp only [Act.put, List.setIfInBounds_toArray, List.set_cons_zero, List.set_cons_succ])
 go_cut [35] (fun v35 wc => ∃ (kq : Nat) (x35_2 : Bool), v35 = .bool x35_2 ∧ Aside0 (goboref11_SamePat.j0 kq x35_2 a0_0 l0_1 l0_2 l0_3 a1_0 l1_1 l1_2 l1_3 = some r) ∧ Aside0 (kq ≤ k) ∧ Aside0 (wc.heap[gb262]? = some (.cells #[.int .i64 a0_0, (.slice A0_1 l0_1.length c0_1), (.slice A0_2 l0_2.length c0_2), (.slice A0_3 l0_3.length c0_3)] 37 (0, 0))) ∧ Aside0 (wc.heap[gb263]? = some (.cells #[.int .i64 a1_0, (.slice A1_1 l1_1.length c1_1), (.slice A1_2 l1_2.length c1_2), (.slice A1_3 l1_3.length c1_3)] 37 (0, 0))) ∧ Aside0 (Below w.heap.size w wc))
 case first =>
  have H := HC3.out
  clear HC3
  by_cases c6 : a0_0 = a1_0
  · rw [if_pos c6] at H
    have c6b0 : (a0_0 == a1_0) = true := beq_iff_eq.mpr c6
    have c6b1 : (a0_0 != a1_0) = false := bne_eq_false_iff_eq.mpr c6
    clear c6
    (first | rw [c6b0] | (simp only [i64_w, i32_w]; rw [c6b0]) | skip)
    by_cases c7 : (l0_3.length : Int) = (l1_3.length : Int)
    · rw [if_pos c7] at H
      have c7b0 : ((l0_3.length : Int) == (l1_3.length : Int)) = true := beq_iff_eq.mpr c7
      have c7b1 : ((l0_3.length : Int) != (l1_3.length : Int)) = false := bne_eq_false_iff_eq.mpr c7
      have c7b2 : (l0_3.length == l1_3.length) = true := by first | simpa using c7 | (simp at c7 ⊢; omega)
      clear c7
      replace H := Option.bind_eq_some_iff.mp H
      obtain ⟨t264, A80, H⟩ := H
      replace H : (if t264 = true then ((goboref11_texts.f k l0_2 l1_2).bind fun t265 => (goboref11_SamePat.j0 k (!t265) a0_0 l0_1 l0_2 l0_3 a1_0 l1_1 l1_2 l1_3)) else (goboref11_SamePat.j0 k true a0_0 l0_1 l0_2 l0_3 a1_0 l1_1 l1_2 l1_3)) = some r := H
      have A8 := Aside0.mk A80
      clear A80
      by_cases c9 : t264 = true
      · subst c9
        have H1 : ((goboref11_texts.f k l0_2 l1_2).bind fun t265 => (goboref11_SamePat.j0 k (!t265) a0_0 l0_1 l0_2 l0_3 a1_0 l1_1 l1_2 l1_3)) = some r := by rw [if_pos rfl] at H; exact H
        clear H
        have H := H1
        clear H1
        replace H := Option.bind_eq_some_iff.mp H
        obtain ⟨t265, A100, H⟩ := H
        replace H : (goboref11_SamePat.j0 k (!t265) a0_0 l0_1 l0_2 l0_3 a1_0 l1_1 l1_2 l1_3) = some r := H
        have A10 := Aside0.mk A100
        clear A100
        have H' := Aside0.mk H
        clear H
        have hnb11 := NB262_263.out
        have hnc11 := NB263_262.out
        have hcz12_0 : w5.cell? ⟨gb262, 0, none⟩ = some (.int .i64 a0_0) := (blk_cell BK262.out 0).trans rfl
        have hcz12_1 : w5.cell? ⟨gb262, 1, none⟩ = some (.slice A0_1 l0_1.length c0_1) := (blk_cell BK262.out 1).trans rfl
        have hcz12_2 : w5.cell? ⟨gb262, 2, none⟩ = some (.slice A0_2 l0_2.length c0_2) := (blk_cell BK262.out 2).trans rfl
        have hcz12_3 : w5.cell? ⟨gb262, 3, none⟩ = some (.slice A0_3 l0_3.length c0_3) := (blk_cell BK262.out 3).trans rfl
        have hfz12_0 := blk_frozen BK262.out 0
        have hfz12_1 := blk_frozen BK262.out 1
        have hfz12_2 := blk_frozen BK262.out 2
        have hfz12_3 := blk_frozen BK262.out 3
        have hcz13_0 : w5.cell? ⟨gb263, 0, none⟩ = some (.int .i64 a1_0) := (blk_cell BK263.out 0).trans rfl
        have hcz13_1 : w5.cell? ⟨gb263, 1, none⟩ = some (.slice A1_1 l1_1.length c1_1) := (blk_cell BK263.out 1).trans rfl
        have hcz13_2 : w5.cell? ⟨gb263, 2, none⟩ = some (.slice A1_2 l1_2.length c1_2) := (blk_cell BK263.out 2).trans rfl
        have hcz13_3 : w5.cell? ⟨gb263, 3, none⟩ = some (.slice A1_3 l1_3.length c1_3) := (blk_cell BK263.out 3).trans rfl
        have hfz13_0 := blk_frozen BK263.out 0
        have hfz13_1 := blk_frozen BK263.out 1
        have hfz13_2 := blk_frozen BK263.out 2
        have hfz13_3 := blk_frozen BK263.out 3
        go_wp2_with (first | (go_at_call 26; (with_reducible refine (goboref11_texts.calls k _ _ l0_1 _ _ l1_1 true _ ?side1 ?side2 ?side3 ?side4 A8.out).mono ?_); (case side1 => repeat (first | exact (Kd.C_below HR0_1.out HB.out) | (with_reducible refine Kd.C_alloc ?_ _) | (with_reducible refine Kd.C_drewN ?_ _) | (with_reducible refine Kd.C_drew ?_))); (case side2 => exact HC0_1.out); (case side3 => repeat (first | exact (Kd.C_below HR1_1.out HB.out) | (with_reducible refine Kd.C_alloc ?_ _) | (with_reducible refine Kd.C_drewN ?_ _) | (with_reducible refine Kd.C_drew ?_))); (case side4 => exact HC1_1.out); rintro e w' ⟨rfl, ⟨nd, rfl⟩⟩) | (go_at_call 26; (with_reducible refine (goboref11_texts.calls k _ _ l0_2 _ _ l1_2 t265 _ ?side1 ?side2 ?side3 ?side4 A10.out).mono ?_); (case side1 => repeat (first | exact (Kd.C_below HR0_2.out (by repeat (first | (with_reducible first | exact HB.out | apply below_alloc | apply pw_below_drewN | apply below_drew1 | refine below_set ?_ GE262.out | refine below_set ?_ GE263.out) | exact HB.out))) | (with_reducible refine Kd.C_alloc ?_ _) | (with_reducible refine Kd.C_drewN ?_ _) | (with_reducible refine Kd.C_drew ?_))); (case side2 => exact HC0_2.out); (case side3 => repeat (first | exact (Kd.C_below HR1_2.out (by repeat (first | (with_reducible first | exact HB.out | apply below_alloc | apply pw_below_drewN | apply below_drew1 | refine below_set ?_ GE262.out | refine below_set ?_ GE263.out) | exact HB.out))) | (with_reducible refine Kd.C_alloc ?_ _) | (with_reducible refine Kd.C_drewN ?_ _) | (with_reducible refine Kd.C_drew ?_))); (case side4 => exact HC1_2.out); rintro e w' ⟨rfl, ⟨nd, rfl⟩⟩))
        go_meet
        case rel => exact ⟨_, (!t265), (by first | rfl | (simp; done) | (simp [*]; done)), H', ⟨by first | omega | exact Nat.le_refl _⟩, ⟨by (with_reducible repeat (first | refine blk_drewN ?_ _ | refine blk_drew ?_ | refine blk_alloc ?_ _)); exact BK262.out⟩, ⟨by (with_reducible repeat (first | refine blk_drewN ?_ _ | refine blk_drew ?_ | refine blk_alloc ?_ _)); exact BK263.out⟩, ⟨by repeat (first | (with_reducible first | exact HB.out | apply below_alloc | apply pw_below_drewN | apply below_drew1 | refine below_set ?_ GE262.out | refine below_set ?_ GE263.out) | exact HB.out)⟩⟩
      · replace c9 := Bool.eq_false_iff.mpr c9
        subst c9
        have H1 : (goboref11_SamePat.j0 k true a0_0 l0_1 l0_2 l0_3 a1_0 l1_1 l1_2 l1_3) = some r := by rw [if_neg (show ¬ (false = true) by decide)] at H; exact H
        clear H
        have H := H1
        clear H1
        have H' := Aside0.mk H
        clear H
        have hnb14 := NB262_263.out
        have hnc14 := NB263_262.out
        have hcz15_0 : w5.cell? ⟨gb262, 0, none⟩ = some (.int .i64 a0_0) := (blk_cell BK262.out 0).trans rfl
        have hcz15_1 : w5.cell? ⟨gb262, 1, none⟩ = some (.slice A0_1 l0_1.length c0_1) := (blk_cell BK262.out 1).trans rfl
        have hcz15_2 : w5.cell? ⟨gb262, 2, none⟩ = some (.slice A0_2 l0_2.length c0_2) := (blk_cell BK262.out 2).trans rfl
        have hcz15_3 : w5.cell? ⟨gb262, 3, none⟩ = some (.slice A0_3 l0_3.length c0_3) := (blk_cell BK262.out 3).trans rfl
        have hfz15_0 := blk_frozen BK262.out 0
        have hfz15_1 := blk_frozen BK262.out 1
        have hfz15_2 := blk_frozen BK262.out 2
        have hfz15_3 := blk_frozen BK262.out 3
        have hcz16_0 : w5.cell? ⟨gb263, 0, none⟩ = some (.int .i64 a1_0) := (blk_cell BK263.out 0).trans rfl
        have hcz16_1 : w5.cell? ⟨gb263, 1, none⟩ = some (.slice A1_1 l1_1.length c1_1) := (blk_cell BK263.out 1).trans rfl
        have hcz16_2 : w5.cell? ⟨gb263, 2, none⟩ = some (.slice A1_2 l1_2.length c1_2) := (blk_cell BK263.out 2).trans rfl
        have hcz16_3 : w5.cell? ⟨gb263, 3, none⟩ = some (.slice A1_3 l1_3.length c1_3) := (blk_cell BK263.out 3).trans rfl
        have hfz16_0 := blk_frozen BK263.out 0
        have hfz16_1 := blk_frozen BK263.out 1
        have hfz16_2 := blk_frozen BK263.out 2
        have hfz16_3 := blk_frozen BK263.out 3
        go_wp2_with (first | (go_at_call 26; (with_reducible refine (goboref11_texts.calls k _ _ l0_1 _ _ l1_1 false _ ?side1 ?side2 ?side3 ?side4 A8.out).mono ?_); (case side1 => repeat (first | exact (Kd.C_below HR0_1.out HB.out) | (with_reducible refine Kd.C_alloc ?_ _) | (with_reducible refine Kd.C_drewN ?_ _) | (with_reducible refine Kd.C_drew ?_))); (case side2 => exact HC0_1.out); (case side3 => repeat (first | exact (Kd.C_below HR1_1.out HB.out) | (with_reducible refine Kd.C_alloc ?_ _) | (with_reducible refine Kd.C_drewN ?_ _) | (with_reducible refine Kd.C_drew ?_))); (case side4 => exact HC1_1.out); rintro e w' ⟨rfl, ⟨nd, rfl⟩⟩))
        go_meet
        case rel => exact ⟨_, (true), (by first | rfl | (simp; done) | (simp [*]; done)), H', ⟨by first | omega | exact Nat.le_refl _⟩, ⟨by (with_reducible repeat (first | refine blk_drewN ?_ _ | refine blk_drew ?_ | refine blk_alloc ?_ _)); exact BK262.out⟩, ⟨by (with_reducible repeat (first | refine blk_drewN ?_ _ | refine blk_drew ?_ | refine blk_alloc ?_ _)); exact BK263.out⟩, ⟨by repeat (first | (with_reducible first | exact HB.out | apply below_alloc | apply pw_below_drewN | apply below_drew1 | refine below_set ?_ GE262.out | refine below_set ?_ GE263.out) | exact HB.out)⟩⟩
    · rw [if_neg c7] at H
      have c7b0 : ((l0_3.length : Int) == (l1_3.length : Int)) = false := beq_eq_false_iff_ne.mpr c7
      have c7b1 : ((l0_3.length : Int) != (l1_3.length : Int)) = true := bne_iff_ne.mpr c7
      have c7b2 : (l0_3.length == l1_3.length) = false := by first | simpa using c7 | (simp at c7 ⊢; omega)
      have H' := Aside0.mk H
      clear H
      have hnb17 := NB262_263.out
      have hnc17 := NB263_262.out
      have hcz18_0 : w5.cell? ⟨gb262, 0, none⟩ = some (.int .i64 a0_0) := (blk_cell BK262.out 0).trans rfl
      have hcz18_1 : w5.cell? ⟨gb262, 1, none⟩ = some (.slice A0_1 l0_1.length c0_1) := (blk_cell BK262.out 1).trans rfl
      have hcz18_2 : w5.cell? ⟨gb262, 2, none⟩ = some (.slice A0_2 l0_2.length c0_2) := (blk_cell BK262.out 2).trans rfl
      have hcz18_3 : w5.cell? ⟨gb262, 3, none⟩ = some (.slice A0_3 l0_3.length c0_3) := (blk_cell BK262.out 3).trans rfl
      have hfz18_0 := blk_frozen BK262.out 0
      have hfz18_1 := blk_frozen BK262.out 1
      have hfz18_2 := blk_frozen BK262.out 2
      have hfz18_3 := blk_frozen BK262.out 3
      have hcz19_0 : w5.cell? ⟨gb263, 0, none⟩ = some (.int .i64 a1_0) := (blk_cell BK263.out 0).trans rfl
      have hcz19_1 : w5.cell? ⟨gb263, 1, none⟩ = some (.slice A1_1 l1_1.length c1_1) := (blk_cell BK263.out 1).trans rfl
      have hcz19_2 : w5.cell? ⟨gb263, 2, none⟩ = some (.slice A1_2 l1_2.length c1_2) := (blk_cell BK263.out 2).trans rfl
      have hcz19_3 : w5.cell? ⟨gb263, 3, none⟩ = some (.slice A1_3 l1_3.length c1_3) := (blk_cell BK263.out 3).trans rfl
      have hfz19_0 := blk_frozen BK263.out 0
      have hfz19_1 := blk_frozen BK263.out 1
      have hfz19_2 := blk_frozen BK263.out 2
      have hfz19_3 := blk_frozen BK263.out 3
      go_wp2
      go_meet
      case rel => exact ⟨_, (true), (by first | rfl | (simp; done) | (simp [*]; done)), H', ⟨by first | omega | exact Nat.le_refl _⟩, ⟨by (with_reducible repeat (first | refine blk_drewN ?_ _ | refine blk_drew ?_ | refine blk_alloc ?_ _)); exact BK262.out⟩, ⟨by (with_reducible repeat (first | refine blk_drewN ?_ _ | refine blk_drew ?_ | refine blk_alloc ?_ _)); exact BK263.out⟩, ⟨by repeat (first | (with_reducible first | exact HB.out | apply below_alloc | apply pw_below_drewN | apply below_drew1 | refine below_set ?_ GE262.out | refine below_set ?_ GE263.out) | exact HB.out)⟩⟩
  · rw [if_neg c6] at H
    have c6b0 : (a0_0 == a1_0) = false := beq_eq_false_iff_ne.mpr c6
    have c6b1 : (a0_0 != a1_0) = true := bne_iff_ne.mpr c6
    (first | rw [c6b0] | (simp only [i64_w, i32_w]; rw [c6b0]) | skip)
    have H' := Aside0.mk H
    clear H
    have hnb20 := NB262_263.out
    have hnc20 := NB263_262.out
    have hcz21_0 : w5.cell? ⟨gb262, 0, none⟩ = some (.int .i64 a0_0) := (blk_cell BK262.out 0).trans rfl
    have hcz21_1 : w5.cell? ⟨gb262, 1, none⟩ = some (.slice A0_1 l0_1.length c0_1) := (blk_cell BK262.out 1).trans rfl
    have hcz21_2 : w5.cell? ⟨gb262, 2, none⟩ = some (.slice A0_2 l0_2.length c0_2) := (blk_cell BK262.out 2).trans rfl
    have hcz21_3 : w5.cell? ⟨gb262, 3, none⟩ = some (.slice A0_3 l0_3.length c0_3) := (blk_cell BK262.out 3).trans rfl
    have hfz21_0 := blk_frozen BK262.out 0
    have hfz21_1 := blk_frozen BK262.out 1
    have hfz21_2 := blk_frozen BK262.out 2
    have hfz21_3 := blk_frozen BK262.out 3
    have hcz22_0 : w5.cell? ⟨gb263, 0, none⟩ = some (.int .i64 a1_0) := (blk_cell BK263.out 0).trans rfl
    have hcz22_1 : w5.cell? ⟨gb263, 1, none⟩ = some (.slice A1_1 l1_1.length c1_1) := (blk_cell BK263.out 1).trans rfl
    have hcz22_2 : w5.cell? ⟨gb263, 2, none⟩ = some (.slice A1_2 l1_2.length c1_2) := (blk_cell BK263.out 2).trans rfl
    have hcz22_3 : w5.cell? ⟨gb263, 3, none⟩ = some (.slice A1_3 l1_3.length c1_3) := (blk_cell BK263.out 3).trans rfl
    have hfz22_0 := blk_frozen BK263.out 0
    have hfz22_1 := blk_frozen BK263.out 1
    have hfz22_2 := blk_frozen BK263.out 2
    have hfz22_3 := blk_frozen BK263.out 3
    go_wp2
    go_meet
    case rel => exact ⟨_, (true), (by first | rfl | (simp; done) | (simp [*]; done)), H', ⟨by first | omega | exact Nat.le_refl _⟩, ⟨by (with_reducible repeat (first | refine blk_drewN ?_ _ | refine blk_drew ?_ | refine blk_alloc ?_ _)); exact BK262.out⟩, ⟨by (with_reducible repeat (first | refine blk_drewN ?_ _ | refine blk_drew ?_ | refine blk_alloc ?_ _)); exact BK263.out⟩, ⟨by repeat (first | (with_reducible first | exact HB.out | apply below_alloc | apply pw_below_drewN | apply below_drew1 | refine below_set ?_ GE262.out | refine below_set ?_ GE263.out) | exact HB.out)⟩⟩
 case rest =>
  clear HC3
  try clear c1
  try clear c2
  try clear p2
  try clear c6
  try clear c6b0
  try clear c6b1
  try clear c7
  try clear c7b0
  try clear c7b1
  try clear c7b2
  try clear c9
  try clear c11
  try clear c14
  try clear c17
  try clear c20
  try clear hcz12_0
  try clear hcz12_1
  try clear hcz12_2
  try clear hcz12_3
  try clear hcz13_0
  try clear hcz13_1
  try clear hcz13_2
  try clear hcz13_3
  try clear hcz15_0
  try clear hcz15_1
  try clear hcz15_2
  try clear hcz15_3
  try clear hcz16_0
  try clear hcz16_1
  try clear hcz16_2
  try clear hcz16_3
  try clear hcz18_0
  try clear hcz18_1
  try clear hcz18_2
  try clear hcz18_3
  try clear hcz19_0
  try clear hcz19_1
  try clear hcz19_2
  try clear hcz19_3
  try clear hcz21_0
  try clear hcz21_1
  try clear hcz21_2
  try clear hcz21_3
  try clear hcz22_0
  try clear hcz22_1
  try clear hcz22_2
  try clear hcz22_3
  try clear hfz12_0
  try clear hfz12_1
  try clear hfz12_2
  try clear hfz12_3
  try clear hfz13_0
  try clear hfz13_1
  try clear hfz13_2
  try clear hfz13_3
  try clear hfz15_0
  try clear hfz15_1
  try clear hfz15_2
  try clear hfz15_3
  try clear hfz16_0
  try clear hfz16_1
  try clear hfz16_2
  try clear hfz16_3
  try clear hfz18_0
  try clear hfz18_1
  try clear hfz18_2
  try clear hfz18_3
  try clear hfz19_0
  try clear hfz19_1
  try clear hfz19_2
  try clear hfz19_3
  try clear hfz21_0
  try clear hfz21_1
  try clear hfz21_2
  try clear hfz21_3
  try clear hfz22_0
  try clear hfz22_1
  try clear hfz22_2
  try clear hfz22_3
  obtain ⟨kq, x35_2, rfl, HA, HJ2, BK262, BK263, HB⟩ := hcut
  cases kq with
  | zero => exact absurd HA.out (by simp [goboref11_SamePat.j0])
  | succ kj2 =>
   have H := HA.out
   clear HA
   simp only [goboref11_SamePat.j0] at H
   by_cases c23 : x35_2 = true
   · subst c23
     have H1 : (some false) = some r := by rw [if_pos rfl] at H; exact H
     clear H
     have H := H1
     clear H1
     obtain rfl := Option.some.inj H
     go_wp2
     go_ret
     exact ⟨by first | rfl | (simp [errW_none, errW_some] <;> rfl) | (simp [*, errW_none, errW_some] <;> rfl), by repeat (first | (with_reducible first | exact HB.out | apply below_alloc | apply pw_below_drewN | apply below_drew1 | refine below_set ?_ GE262.out | refine below_set ?_ GE263.out) | exact HB.out)⟩
   · replace c23 := Bool.eq_false_iff.mpr c23
     subst c23
     have H1 : (goboref11_SamePat.l0 kj2 0 a0_0 l0_1 l0_2 l0_3 a1_0 l1_1 l1_2 l1_3) = some r := by rw [if_neg (show ¬ (false = true) by decide)] at H; exact H
     clear H
     have H := H1
     clear H1
     have H' := Aside0.mk H
     clear H
     go_wp2
     go_loopg [5] kj2 (fun kq v5 w' => ∃ (x5_2 : Int), v5 = .int .i64 x5_2 ∧ Aside0 (goboref11_SamePat.l0 kq x5_2 a0_0 l0_1 l0_2 l0_3 a1_0 l1_1 l1_2 l1_3 = some r) ∧ Aside0 (kq ≤ kj2) ∧ Aside0 (w'.heap[gb262]? = some (.cells #[.int .i64 a0_0, (.slice A0_1 l0_1.length c0_1), (.slice A0_2 l0_2.length c0_2), (.slice A0_3 l0_3.length c0_3)] 37 (0, 0))) ∧ Aside0 (w'.heap[gb263]? = some (.cells #[.int .i64 a1_0, (.slice A1_1 l1_1.length c1_1), (.slice A1_2 l1_2.length c1_2), (.slice A1_3 l1_3.length c1_3)] 37 (0, 0))) ∧ Aside0 (Below w.heap.size w w'))
     case atStart => exact ⟨(0), (by first | rfl | (simp; done) | (simp [*]; done)), H', ⟨Nat.le_refl _⟩, ⟨by (with_reducible repeat (first | refine blk_drewN ?_ _ | refine blk_drew ?_ | refine blk_alloc ?_ _)); exact BK262.out⟩, ⟨by (with_reducible repeat (first | refine blk_drewN ?_ _ | refine blk_drew ?_ | refine blk_alloc ?_ _)); exact BK263.out⟩, ⟨by repeat (first | (with_reducible first | exact HB.out | apply below_alloc | apply pw_below_drewN | apply below_drew1 | refine below_set ?_ GE262.out | refine below_set ?_ GE263.out) | exact HB.out)⟩⟩
     case round =>
      clear H'
      try clear c1
      try clear c2
      try clear p2
      try clear c6
      try clear c6b0
      try clear c6b1
      try clear c7
      try clear c7b0
      try clear c7b1
      try clear c7b2
      try clear c9
      try clear c11
      try clear c14
      try clear c17
      try clear c20
      try clear c23
      try clear hcz12_0
      try clear hcz12_1
      try clear hcz12_2
      try clear hcz12_3
      try clear hcz13_0
      try clear hcz13_1
      try clear hcz13_2
      try clear hcz13_3
      try clear hcz15_0
      try clear hcz15_1
      try clear hcz15_2
      try clear hcz15_3
      try clear hcz16_0
      try clear hcz16_1
      try clear hcz16_2
      try clear hcz16_3
      try clear hcz18_0
      try clear hcz18_1
      try clear hcz18_2
      try clear hcz18_3
      try clear hcz19_0
      try clear hcz19_1
      try clear hcz19_2
      try clear hcz19_3
      try clear hcz21_0
      try clear hcz21_1
      try clear hcz21_2
      try clear hcz21_3
      try clear hcz22_0
      try clear hcz22_1
      try clear hcz22_2
      try clear hcz22_3
      try clear hfz12_0
      try clear hfz12_1
      try clear hfz12_2
      try clear hfz12_3
      try clear hfz13_0
      try clear hfz13_1
      try clear hfz13_2
      try clear hfz13_3
      try clear hfz15_0
      try clear hfz15_1
      try clear hfz15_2
      try clear hfz15_3
      try clear hfz16_0
      try clear hfz16_1
      try clear hfz16_2
      try clear hfz16_3
      try clear hfz18_0
      try clear hfz18_1
      try clear hfz18_2
      try clear hfz18_3
      try clear hfz19_0
      try clear hfz19_1
      try clear hfz19_2
      try clear hfz19_3
      try clear hfz21_0
      try clear hfz21_1
      try clear hfz21_2
      try clear hfz21_3
      try clear hfz22_0
      try clear hfz22_1
      try clear hfz22_2
      try clear hfz22_3
      try clear p2
      obtain ⟨x5_2, rfl, HA, HK2, BK262, BK263, HB⟩ := hrel
      cases gk with
      | zero => exact absurd HA.out (by simp [goboref11_SamePat.l0])
      | succ k2 =>
       have H := HA.out
       clear HA
       simp only [goboref11_SamePat.l0] at H
       by_cases c24 : x5_2 < (l0_3.length : Int)
       · rw [if_pos c24] at H
         have c24b0 : decide (x5_2 < (l0_3.length : Int)) = true := decide_eq_true c24
         clear c24
         by_cases c25 : 0 ≤ x5_2
         · rw [if_pos c25] at H
           have c25b0 : decide (0 ≤ x5_2) = true := decide_eq_true c25
           clear c25
           by_cases c26 : x5_2 < (l1_3.length : Int)
           · rw [if_pos c26] at H
             have c26b0 : decide (x5_2 < (l1_3.length : Int)) = true := decide_eq_true c26
             clear c26
             replace H := Option.bind_eq_some_iff.mp H
             obtain ⟨t268, A270, H⟩ := H
             replace H : (if t268 = true then (goboref11_SamePat.l0 k2 (wrap64 (x5_2 + 1)) a0_0 l0_1 l0_2 l0_3 a1_0 l1_1 l1_2 l1_3) else (some false)) = some r := H
             have A27 := Aside0.mk A270
             clear A270
             by_cases c28 : t268 = true
             · subst c28
               have H1 : (goboref11_SamePat.l0 k2 (wrap64 (x5_2 + 1)) a0_0 l0_1 l0_2 l0_3 a1_0 l1_1 l1_2 l1_3) = some r := by rw [if_pos rfl] at H; exact H
               clear H
               have H := H1
               clear H1
               have H' := Aside0.mk H
               clear H
               have hnb29 := NB262_263.out
               have hnc29 := NB263_262.out
               have hcz30_0 : wr.cell? ⟨gb262, 0, none⟩ = some (.int .i64 a0_0) := (blk_cell BK262.out 0).trans rfl
               have hcz30_1 : wr.cell? ⟨gb262, 1, none⟩ = some (.slice A0_1 l0_1.length c0_1) := (blk_cell BK262.out 1).trans rfl
               have hcz30_2 : wr.cell? ⟨gb262, 2, none⟩ = some (.slice A0_2 l0_2.length c0_2) := (blk_cell BK262.out 2).trans rfl
               have hcz30_3 : wr.cell? ⟨gb262, 3, none⟩ = some (.slice A0_3 l0_3.length c0_3) := (blk_cell BK262.out 3).trans rfl
               have hfz30_0 := blk_frozen BK262.out 0
               have hfz30_1 := blk_frozen BK262.out 1
               have hfz30_2 := blk_frozen BK262.out 2
               have hfz30_3 := blk_frozen BK262.out 3
               try go_wp2
               have n0_ := Aside0.mk (blk_drew BK262.out)
               have n1_ := Aside0.mk (blk_drew BK263.out)
               have n2_ := Aside0.mk (below_drew1 HB.out)
               clear BK262
               clear BK263
               clear HB
               have BK262 := n0_
               have BK263 := n1_
               have HB := n2_
               clear n0_ n1_ n2_
               have p266 : 0 ≤ (x5_2 : Int) := of_decide_eq_true (by first | (with_reducible assumption) | assumption)
               have q266 : x5_2 < (l0_3.length : Int) := of_decide_eq_true (by first | (with_reducible assumption) | assumption)
               obtain ⟨ad266, A266_1, c266_1, A266_2, c266_2, A266_3, c266_3, e266, hx266_0, hx266_1, hx266_2, hx266_3, hl266_1, hi266_1, hl266_2, hi266_2, hl266_3, hi266_3⟩ := at_T37 HR0_3.out x5_2 p266 q266
               have hw266_3 := hx266_3
               have hw266_2 := hx266_2
               have hw266_1 := hx266_1
               have hw266_0 := hx266_0
               cases e266
               replace hx266_0 := (HB.out.cell (World.block_lt_of_cell? w _ hx266_0)).trans hx266_0
               replace hx266_1 := (HB.out.cell (World.block_lt_of_cell? w _ hx266_1)).trans hx266_1
               replace hx266_2 := (HB.out.cell (World.block_lt_of_cell? w _ hx266_2)).trans hx266_2
               replace hx266_3 := (HB.out.cell (World.block_lt_of_cell? w _ hx266_3)).trans hx266_3
               have HR266_1 := Aside0.mk hi266_1
               have HC266_1 := Aside0.mk hl266_1
               clear hi266_1 hl266_1
               have HR266_2 := Aside0.mk hi266_2
               have HC266_2 := Aside0.mk hl266_2
               clear hi266_2 hl266_2
               have HR266_3 := Aside0.mk hi266_3
               have HC266_3 := Aside0.mk hl266_3
               clear hi266_3 hl266_3
               replace p266 := eq_true p266
               replace q266 := eq_true q266
               have p267 : 0 ≤ (x5_2 : Int) := of_decide_eq_true (by first | (with_reducible assumption) | assumption)
               have q267 : x5_2 < (l1_3.length : Int) := of_decide_eq_true (by first | (with_reducible assumption) | assumption)
               obtain ⟨ad267, A267_1, c267_1, A267_2, c267_2, A267_3, c267_3, e267, hx267_0, hx267_1, hx267_2, hx267_3, hl267_1, hi267_1, hl267_2, hi267_2, hl267_3, hi267_3⟩ := at_T37 HR1_3.out x5_2 p267 q267
               have hw267_3 := hx267_3
               have hw267_2 := hx267_2
               have hw267_1 := hx267_1
               have hw267_0 := hx267_0
               cases e267
               replace hx267_0 := (HB.out.cell (World.block_lt_of_cell? w _ hx267_0)).trans hx267_0
               replace hx267_1 := (HB.out.cell (World.block_lt_of_cell? w _ hx267_1)).trans hx267_1
               replace hx267_2 := (HB.out.cell (World.block_lt_of_cell? w _ hx267_2)).trans hx267_2
               replace hx267_3 := (HB.out.cell (World.block_lt_of_cell? w _ hx267_3)).trans hx267_3
               have HR267_1 := Aside0.mk hi267_1
               have HC267_1 := Aside0.mk hl267_1
               clear hi267_1 hl267_1
               have HR267_2 := Aside0.mk hi267_2
               have HC267_2 := Aside0.mk hl267_2
               clear hi267_2 hl267_2
               have HR267_3 := Aside0.mk hi267_3
               have HC267_3 := Aside0.mk hl267_3
               clear hi267_3 hl267_3
               replace p267 := eq_true p267
               replace q267 := eq_true q267
               refine start_ (n := 12) (S := fun w' => w'.cell? ⟨gb262, 0, none⟩ = some (.int .i64 a0_0) ∧ w'.cell? ⟨gb262, 1, none⟩ = some (.slice A0_1 l0_1.length c0_1) ∧ w'.cell? ⟨gb262, 2, none⟩ = some (.slice A0_2 l0_2.length c0_2) ∧ w'.cell? ⟨gb262, 3, none⟩ = some (.slice (some ad266) l0_3.length c0_3) ∧ w'.cell? ⟨gb263, 0, none⟩ = some (.int .i64 a1_0) ∧ w'.cell? ⟨gb263, 1, none⟩ = some (.slice A1_1 l1_1.length c1_1) ∧ w'.cell? ⟨gb263, 2, none⟩ = some (.slice A1_2 l1_2.length c1_2) ∧ w'.cell? ⟨gb263, 3, none⟩ = some (.slice (some ad267) l1_3.length c1_3) ∧ w'.cell? (ad266.add ((x5_2).toNat * 4)) = some (.int .i64 ((rd_T37 l0_3 x5_2).f0)) ∧ w'.cell? ⟨(ad266.add ((x5_2).toNat * 4)).block, (ad266.add ((x5_2).toNat * 4)).off + 1, none⟩ = some (.slice A266_1 ((rd_T37 l0_3 x5_2).f1).length c266_1) ∧ w'.cell? ⟨(ad266.add ((x5_2).toNat * 4)).block, (ad266.add ((x5_2).toNat * 4)).off + 2, none⟩ = some (.slice A266_2 ((rd_T37 l0_3 x5_2).f2).length c266_2) ∧ w'.cell? ⟨(ad266.add ((x5_2).toNat * 4)).block, (ad266.add ((x5_2).toNat * 4)).off + 3, none⟩ = some (.slice A266_3 ((rd_T37 l0_3 x5_2).f3).length c266_3) ∧ w'.cell? (ad267.add ((x5_2).toNat * 4)) = some (.int .i64 ((rd_T37 l1_3 x5_2).f0)) ∧ w'.cell? ⟨(ad267.add ((x5_2).toNat * 4)).block, (ad267.add ((x5_2).toNat * 4)).off + 1, none⟩ = some (.slice A267_1 ((rd_T37 l1_3 x5_2).f1).length c267_1) ∧ w'.cell? ⟨(ad267.add ((x5_2).toNat * 4)).block, (ad267.add ((x5_2).toNat * 4)).off + 2, none⟩ = some (.slice A267_2 ((rd_T37 l1_3 x5_2).f2).length c267_2) ∧ w'.cell? ⟨(ad267.add ((x5_2).toNat * 4)).block, (ad267.add ((x5_2).toNat * 4)).off + 3, none⟩ = some (.slice A267_3 ((rd_T37 l1_3 x5_2).f3).length c267_3)) (ds := []) #[false, false, false, false, false, false, false, false, false, false, false, false] (by kernel_rfl) rfl rfl ⟨(blk_cell BK262.out 0).trans rfl, (blk_cell BK262.out 1).trans rfl, (blk_cell BK262.out 2).trans rfl, (blk_cell BK262.out 3).trans rfl, (blk_cell BK263.out 0).trans rfl, (blk_cell BK263.out 1).trans rfl, (blk_cell BK263.out 2).trans rfl, (blk_cell BK263.out 3).trans rfl, ((HB.out.cell (World.block_lt_of_cell? w _ hw266_0)).trans hw266_0), ((HB.out.cell (World.block_lt_of_cell? w _ hw266_1)).trans hw266_1), ((HB.out.cell (World.block_lt_of_cell? w _ hw266_2)).trans hw266_2), ((HB.out.cell (World.block_lt_of_cell? w _ hw266_3)).trans hw266_3), ((HB.out.cell (World.block_lt_of_cell? w _ hw267_0)).trans hw267_0), ((HB.out.cell (World.block_lt_of_cell? w _ hw267_1)).trans hw267_1), ((HB.out.cell (World.block_lt_of_cell? w _ hw267_2)).trans hw267_2), ((HB.out.cell (World.block_lt_of_cell? w _ hw267_3)).trans hw267_3)⟩ (fun hHeld => ?_); refine with_tabW goboref11_SamePat.tab6 goboref11_SamePat.bits6 (fun HT_ HW_ => ?_)
               generalize wr.drew = w31 at BK262 BK263 HB HR266_1 HR266_2 HR266_3 HR267_1 HR267_2 HR267_3 hx266_0 hx266_1 hx266_2 hx266_3 hx267_0 hx267_1 hx267_2 hx267_3 hHeld ⊢
               refine pure_ (i := 0) (N := some 43) (v := ?_) (a' := ?_) #[true, false, false, false, false, false, false, false, false, false, false, false] rfl rfl (any_of HT_.out (by kernel_rfl)) (fun _ _ _ h => h) (Or.inl ⟨by rfl, ?_⟩) ?_ ?_
               rotate_left
               · intro w'
                 go_simp
                 with_reducible rfl
               rotate_left
               · simp only [Act.put, List.setIfInBounds_toArray, List.set_cons_zero, List.set_cons_succ, i64_w, i32_w]
                 rfl
               refine pure_ (i := 2) (N := some 45) (v := ?_) (a' := ?_) #[true, false, true, false, false, false, false, false, false, false, false, false] rfl rfl (any_of HT_.out (by kernel_rfl)) (fun _ _ _ h => h) (Or.inl ⟨by rfl, ?_⟩) ?_ ?_
               rotate_left
               · intro w'
                 go_simp
                 with_reducible rfl
               rotate_left
               · simp only [Act.put, List.setIfInBounds_toArray, List.set_cons_zero, List.set_cons_succ, i64_w, i32_w]
                 rfl
               refine pure_ (i := 5) (N := some 48) (v := ?_) (a' := ?_) #[true, false, true, false, false, true, false, false, false, false, false, false] rfl rfl (any_of HT_.out (by kernel_rfl)) (fun _ _ _ h => h) (Or.inl ⟨by rfl, ?_⟩) ?_ ?_
               rotate_left
               · intro w'
                 go_simp
                 with_reducible rfl
               rotate_left
               · simp only [Act.put, List.setIfInBounds_toArray, List.set_cons_zero, List.set_cons_succ, i64_w, i32_w]
                 rfl
               refine pure_ (i := 7) (N := some 50) (v := ?_) (a' := ?_) #[true, false, true, false, false, true, false, true, false, false, false, false] rfl rfl (any_of HT_.out (by kernel_rfl)) (fun _ _ _ h => h) (Or.inl ⟨by rfl, ?_⟩) ?_ ?_
               rotate_left
               · intro w'
                 go_simp
                 with_reducible rfl
               rotate_left
               · simp only [Act.put, List.setIfInBounds_toArray, List.set_cons_zero, List.set_cons_succ, i64_w, i32_w]
                 rfl
               refine take_ (i := 1) (N := some 44) (v := ?_) (a' := ?_) #[true, true, true, false, false, true, false, true, false, false, false, false] rfl rfl (take_ofW HT_.out HW_.out (by kernel_rfl)) (fun _ _ _ h => h) (Or.inl ⟨by rfl, ?_⟩) hHeld ?_ ?_
               rotate_left
               · rintro w' ⟨s0, s1, s2, s3, s4, s5, s6, s7, s8, s9, s10, s11, s12, s13, s14, s15⟩
                 go_simp
                 with_reducible rfl
               rotate_left
               · simp only [Act.put, List.setIfInBounds_toArray, List.set_cons_zero, List.set_cons_succ, i64_w, i32_w]
                 rfl
               refine pure_ (i := 3) (N := some 46) (v := ?_) (a' := ?_) #[true, true, true, true, false, true, false, true, false, false, false, false] rfl rfl (any_of HT_.out (by kernel_rfl)) (fun _ _ _ h => h) (Or.inl ⟨by rfl, ?_⟩) ?_ ?_
               rotate_left
               · intro w'
                 go_simp
                 with_reducible rfl
               rotate_left
               · simp only [Act.put, List.setIfInBounds_toArray, List.set_cons_zero, List.set_cons_succ, i64_w, i32_w]
                 rfl
               refine take_ (i := 4) (N := some 47) (v := ?_) (a' := ?_) #[true, true, true, true, true, true, false, true, false, false, false, false] rfl rfl (take_ofW HT_.out HW_.out (by kernel_rfl)) (fun _ _ _ h => h) (Or.inl ⟨by rfl, ?_⟩) hHeld ?_ ?_
               rotate_left
               · rintro w' ⟨s0, s1, s2, s3, s4, s5, s6, s7, s8, s9, s10, s11, s12, s13, s14, s15⟩
                 go_simp
                 with_reducible rfl
               rotate_left
               · simp only [Act.put, List.setIfInBounds_toArray, List.set_cons_zero, List.set_cons_succ, i64_w, i32_w]
                 rfl
               refine take_ (i := 6) (N := some 49) (v := ?_) (a' := ?_) #[true, true, true, true, true, true, true, true, false, false, false, false] rfl rfl (take_ofW HT_.out HW_.out (by kernel_rfl)) (fun _ _ _ h => h) (Or.inl ⟨by rfl, ?_⟩) hHeld ?_ ?_
               rotate_left
               · rintro w' ⟨s0, s1, s2, s3, s4, s5, s6, s7, s8, s9, s10, s11, s12, s13, s14, s15⟩
                 go_simp
                 with_reducible rfl
               rotate_left
               · simp only [Act.put, List.setIfInBounds_toArray, List.set_cons_zero, List.set_cons_succ, i64_w, i32_w]
                 rfl
               refine pure_ (i := 8) (N := some 51) (v := ?_) (a' := ?_) #[true, true, true, true, true, true, true, true, true, false, false, false] rfl rfl (any_of HT_.out (by kernel_rfl)) (fun _ _ _ h => h) (Or.inl ⟨by rfl, ?_⟩) ?_ ?_
               rotate_left
               · intro w'
                 go_simp
                 with_reducible rfl
               rotate_left
               · simp only [Act.put, List.setIfInBounds_toArray, List.set_cons_zero, List.set_cons_succ, i64_w, i32_w]
                 rfl
               refine take_ (i := 9) (N := some 52) (v := ?_) (a' := ?_) #[true, true, true, true, true, true, true, true, true, true, false, false] rfl rfl (take_ofW HT_.out HW_.out (by kernel_rfl)) (fun _ _ _ h => h) (Or.inl ⟨by rfl, ?_⟩) hHeld ?_ ?_
               rotate_left
               · rintro w' ⟨s0, s1, s2, s3, s4, s5, s6, s7, s8, s9, s10, s11, s12, s13, s14, s15⟩
                 go_simp
                 with_reducible rfl
               rotate_left
               · simp only [Act.put, List.setIfInBounds_toArray, List.set_cons_zero, List.set_cons_succ, i64_w, i32_w]
                 rfl
               refine one_ (i := 10) (N := some 53) #[true, true, true, true, true, true, true, true, true, true, true, false] rfl rfl (one_of HT_.out (by kernel_rfl)) (by decide) (fun K hK => ?_)
               refine goes_ Tryd.func14 (by kernel_rfl) rfl #[.agg #[.int .i64 ((rd_T37 l0_3 x5_2).f0), .slice A266_1 ((rd_T37 l0_3 x5_2).f1).length c266_1, .slice A266_2 ((rd_T37 l0_3 x5_2).f2).length c266_2, .slice A266_3 ((rd_T37 l0_3 x5_2).f3).length c266_3], .agg #[.int .i64 ((rd_T37 l1_3 x5_2).f0), .slice A267_1 ((rd_T37 l1_3 x5_2).f1).length c267_1, .slice A267_2 ((rd_T37 l1_3 x5_2).f2).length c267_2, .slice A267_3 ((rd_T37 l1_3 x5_2).f3).length c267_3]] (by rfl) rfl rfl (by (try simp only [List.map_toArray, List.map_cons, List.map_nil]); first | done | rfl | (simp only [List.length_drop, List.length_take]; rfl)) ?_
               with_reducible refine (ih k2 (by have := HJ2.out; have := HK2.out; omega) ((rd_T37 l0_3 x5_2).f0) _ _ ((rd_T37 l0_3 x5_2).f1) _ _ ((rd_T37 l0_3 x5_2).f2) _ _ ((rd_T37 l0_3 x5_2).f3) ((rd_T37 l1_3 x5_2).f0) _ _ ((rd_T37 l1_3 x5_2).f1) _ _ ((rd_T37 l1_3 x5_2).f2) _ _ ((rd_T37 l1_3 x5_2).f3) true _ ?side1 ?side2 ?side3 ?side4 ?side5 ?side6 ?side7 ?side8 ?side9 ?side10 ?side11 ?side12 A27.out).mono ?_
               (case side1 => repeat (first | exact (Kd.C_below HR266_1.out HB.out) | (with_reducible refine Kd.C_alloc ?_ _) | (with_reducible refine Kd.C_drewN ?_ _) | (with_reducible refine Kd.C_drew ?_)))
               (case side2 => exact HC266_1.out)
               (case side3 => repeat (first | exact (Kd.C_below HR266_2.out HB.out) | (with_reducible refine Kd.C_alloc ?_ _) | (with_reducible refine Kd.C_drewN ?_ _) | (with_reducible refine Kd.C_drew ?_)))
               (case side4 => exact HC266_2.out)
               (case side5 => repeat (first | exact (Kd.C_below HR266_3.out HB.out) | (with_reducible refine Kd.C_alloc ?_ _) | (with_reducible refine Kd.C_drewN ?_ _) | (with_reducible refine Kd.C_drew ?_)))
               (case side6 => exact HC266_3.out)
               (case side7 => repeat (first | exact (Kd.C_below HR267_1.out HB.out) | (with_reducible refine Kd.C_alloc ?_ _) | (with_reducible refine Kd.C_drewN ?_ _) | (with_reducible refine Kd.C_drew ?_)))
               (case side8 => exact HC267_1.out)
               (case side9 => repeat (first | exact (Kd.C_below HR267_2.out HB.out) | (with_reducible refine Kd.C_alloc ?_ _) | (with_reducible refine Kd.C_drewN ?_ _) | (with_reducible refine Kd.C_drew ?_)))
               (case side10 => exact HC267_2.out)
               (case side11 => repeat (first | exact (Kd.C_below HR267_3.out HB.out) | (with_reducible refine Kd.C_alloc ?_ _) | (with_reducible refine Kd.C_drewN ?_ _) | (with_reducible refine Kd.C_drew ?_)))
               (case side12 => exact HC267_3.out)
               rintro e w32 ⟨rfl, hb⟩
               refine ⟨_, rfl, ?_⟩
               have n0_ := Aside0.mk (blk_below (g := gb262) (o := .cells #[.int .i64 a0_0, .slice A0_1 l0_1.length c0_1, .slice A0_2 l0_2.length c0_2, .slice (some ad266) l0_3.length c0_3] 37 (0, 0)) (by (with_reducible repeat (first | refine blk_drewN ?_ _ | refine blk_drew ?_ | refine blk_alloc ?_ _)); exact BK262.out) hb)
               have n1_ := Aside0.mk (blk_below (g := gb263) (o := .cells #[.int .i64 a1_0, .slice A1_1 l1_1.length c1_1, .slice A1_2 l1_2.length c1_2, .slice (some ad267) l1_3.length c1_3] 37 (0, 0)) (by (with_reducible repeat (first | refine blk_drewN ?_ _ | refine blk_drew ?_ | refine blk_alloc ?_ _)); exact BK263.out) hb)
               have n2_ := Aside0.mk (below_step (by repeat (first | (with_reducible first | exact HB.out | apply below_alloc | apply pw_below_drewN | apply below_drew1 | refine below_set ?_ GE262.out | refine below_set ?_ GE263.out) | exact HB.out)) hb)
               clear BK262
               clear BK263
               clear HB
               have BK262 := n0_
               have BK263 := n1_
               have HB := n2_
               clear n0_ n1_ n2_
               (try clear hb)
               (try clear hb2)
               (try clear hk)
               (try clear hi)
               refine hK.out _ _ ⟨(blk_cell BK262.out 0).trans rfl, (blk_cell BK262.out 1).trans rfl, (blk_cell BK262.out 2).trans rfl, (blk_cell BK262.out 3).trans rfl, (blk_cell BK263.out 0).trans rfl, (blk_cell BK263.out 1).trans rfl, (blk_cell BK263.out 2).trans rfl, (blk_cell BK263.out 3).trans rfl, ((HB.out.cell (World.block_lt_of_cell? w _ hw266_0)).trans hw266_0), ((HB.out.cell (World.block_lt_of_cell? w _ hw266_1)).trans hw266_1), ((HB.out.cell (World.block_lt_of_cell? w _ hw266_2)).trans hw266_2), ((HB.out.cell (World.block_lt_of_cell? w _ hw266_3)).trans hw266_3), ((HB.out.cell (World.block_lt_of_cell? w _ hw267_0)).trans hw267_0), ((HB.out.cell (World.block_lt_of_cell? w _ hw267_1)).trans hw267_1), ((HB.out.cell (World.block_lt_of_cell? w _ hw267_2)).trans hw267_2), ((HB.out.cell (World.block_lt_of_cell? w _ hw267_3)).trans hw267_3)⟩ (fun hHeld => ?_)
               clear hK K
               refine norm_ (a' := ?_) ?_ ?_
               rotate_left
               · show Act.put _ (some 53) _ = _
                 simp only [Act.put, List.setIfInBounds_toArray, List.set_cons_zero, List.set_cons_succ, i64_w, i32_w]
                 rfl
               refine pure_ (i := 11) (N := some 54) (v := ?_) (a' := ?_) #[true, true, true, true, true, true, true, true, true, true, true, true] rfl rfl (any_of HT_.out (by kernel_rfl)) (fun _ _ _ h => h) (Or.inl ⟨by rfl, ?_⟩) ?_ ?_
               rotate_left
               · intro w'
                 go_simp
                 with_reducible rfl
               rotate_left
               · simp only [Act.put, List.setIfInBounds_toArray, List.set_cons_zero, List.set_cons_succ, i64_w, i32_w]
                 rfl
               refine done_ (done_of HT_.out (by kernel_rfl)) ?_
               try go_wp2
               go_roundg k2
               case measure => have := HJ2.out; have := HK2.out; omega
               case rel => exact ⟨(wrap64 (x5_2 + 1)), (by first | rfl | (simp; done) | (simp [*]; done)), H', ⟨by have := HJ2.out; have := HK2.out; omega⟩, ⟨by (with_reducible repeat (first | refine blk_drewN ?_ _ | refine blk_drew ?_ | refine blk_alloc ?_ _)); exact BK262.out⟩, ⟨by (with_reducible repeat (first | refine blk_drewN ?_ _ | refine blk_drew ?_ | refine blk_alloc ?_ _)); exact BK263.out⟩, ⟨by repeat (first | (with_reducible first | exact HB.out | apply below_alloc | apply pw_below_drewN | apply below_drew1 | refine below_set ?_ GE262.out | refine below_set ?_ GE263.out) | exact HB.out)⟩⟩
             · replace c28 := Bool.eq_false_iff.mpr c28
               subst c28
               have H1 : (some false) = some r := by rw [if_neg (show ¬ (false = true) by decide)] at H; exact H
               clear H
               have H := H1
               clear H1
               obtain rfl := Option.some.inj H
               have hnb33 := NB262_263.out
               have hnc33 := NB263_262.out
               have hcz34_0 : wr.cell? ⟨gb262, 0, none⟩ = some (.int .i64 a0_0) := (blk_cell BK262.out 0).trans rfl
               have hcz34_1 : wr.cell? ⟨gb262, 1, none⟩ = some (.slice A0_1 l0_1.length c0_1) := (blk_cell BK262.out 1).trans rfl
               have hcz34_2 : wr.cell? ⟨gb262, 2, none⟩ = some (.slice A0_2 l0_2.length c0_2) := (blk_cell BK262.out 2).trans rfl
               have hcz34_3 : wr.cell? ⟨gb262, 3, none⟩ = some (.slice A0_3 l0_3.length c0_3) := (blk_cell BK262.out 3).trans rfl
               have hfz34_0 := blk_frozen BK262.out 0
               have hfz34_1 := blk_frozen BK262.out 1
               have hfz34_2 := blk_frozen BK262.out 2
               have hfz34_3 := blk_frozen BK262.out 3
               try go_wp2
               have n0_ := Aside0.mk (blk_drew BK262.out)
               have n1_ := Aside0.mk (blk_drew BK263.out)
               have n2_ := Aside0.mk (below_drew1 HB.out)
               clear BK262
               clear BK263
               clear HB
               have BK262 := n0_
               have BK263 := n1_
               have HB := n2_
               clear n0_ n1_ n2_
               have p266 : 0 ≤ (x5_2 : Int) := of_decide_eq_true (by first | (with_reducible assumption) | assumption)
               have q266 : x5_2 < (l0_3.length : Int) := of_decide_eq_true (by first | (with_reducible assumption) | assumption)
               obtain ⟨ad266, A266_1, c266_1, A266_2, c266_2, A266_3, c266_3, e266, hx266_0, hx266_1, hx266_2, hx266_3, hl266_1, hi266_1, hl266_2, hi266_2, hl266_3, hi266_3⟩ := at_T37 HR0_3.out x5_2 p266 q266
               have hw266_3 := hx266_3
               have hw266_2 := hx266_2
               have hw266_1 := hx266_1
               have hw266_0 := hx266_0
               cases e266
               replace hx266_0 := (HB.out.cell (World.block_lt_of_cell? w _ hx266_0)).trans hx266_0
               replace hx266_1 := (HB.out.cell (World.block_lt_of_cell? w _ hx266_1)).trans hx266_1
               replace hx266_2 := (HB.out.cell (World.block_lt_of_cell? w _ hx266_2)).trans hx266_2
               replace hx266_3 := (HB.out.cell (World.block_lt_of_cell? w _ hx266_3)).trans hx266_3
               have HR266_1 := Aside0.mk hi266_1
               have HC266_1 := Aside0.mk hl266_1
               clear hi266_1 hl266_1
               have HR266_2 := Aside0.mk hi266_2
               have HC266_2 := Aside0.mk hl266_2
               clear hi266_2 hl266_2
               have HR266_3 := Aside0.mk hi266_3
               have HC266_3 := Aside0.mk hl266_3
               clear hi266_3 hl266_3
               replace p266 := eq_true p266
               replace q266 := eq_true q266
               have p267 : 0 ≤ (x5_2 : Int) := of_decide_eq_true (by first | (with_reducible assumption) | assumption)
               have q267 : x5_2 < (l1_3.length : Int) := of_decide_eq_true (by first | (with_reducible assumption) | assumption)
               obtain ⟨ad267, A267_1, c267_1, A267_2, c267_2, A267_3, c267_3, e267, hx267_0, hx267_1, hx267_2, hx267_3, hl267_1, hi267_1, hl267_2, hi267_2, hl267_3, hi267_3⟩ := at_T37 HR1_3.out x5_2 p267 q267
               have hw267_3 := hx267_3
               have hw267_2 := hx267_2
               have hw267_1 := hx267_1
               have hw267_0 := hx267_0
               cases e267
               replace hx267_0 := (HB.out.cell (World.block_lt_of_cell? w _ hx267_0)).trans hx267_0
               replace hx267_1 := (HB.out.cell (World.block_lt_of_cell? w _ hx267_1)).trans hx267_1
               replace hx267_2 := (HB.out.cell (World.block_lt_of_cell? w _ hx267_2)).trans hx267_2
               replace hx267_3 := (HB.out.cell (World.block_lt_of_cell? w _ hx267_3)).trans hx267_3
               have HR267_1 := Aside0.mk hi267_1
               have HC267_1 := Aside0.mk hl267_1
               clear hi267_1 hl267_1
               have HR267_2 := Aside0.mk hi267_2
               have HC267_2 := Aside0.mk hl267_2
               clear hi267_2 hl267_2
               have HR267_3 := Aside0.mk hi267_3
               have HC267_3 := Aside0.mk hl267_3
               clear hi267_3 hl267_3
               replace p267 := eq_true p267
               replace q267 := eq_true q267
               refine start_ (n := 12) (S := fun w' => w'.cell? ⟨gb262, 0, none⟩ = some (.int .i64 a0_0) ∧ w'.cell? ⟨gb262, 1, none⟩ = some (.slice A0_1 l0_1.length c0_1) ∧ w'.cell? ⟨gb262, 2, none⟩ = some (.slice A0_2 l0_2.length c0_2) ∧ w'.cell? ⟨gb262, 3, none⟩ = some (.slice (some ad266) l0_3.length c0_3) ∧ w'.cell? ⟨gb263, 0, none⟩ = some (.int .i64 a1_0) ∧ w'.cell? ⟨gb263, 1, none⟩ = some (.slice A1_1 l1_1.length c1_1) ∧ w'.cell? ⟨gb263, 2, none⟩ = some (.slice A1_2 l1_2.length c1_2) ∧ w'.cell? ⟨gb263, 3, none⟩ = some (.slice (some ad267) l1_3.length c1_3) ∧ w'.cell? (ad266.add ((x5_2).toNat * 4)) = some (.int .i64 ((rd_T37 l0_3 x5_2).f0)) ∧ w'.cell? ⟨(ad266.add ((x5_2).toNat * 4)).block, (ad266.add ((x5_2).toNat * 4)).off + 1, none⟩ = some (.slice A266_1 ((rd_T37 l0_3 x5_2).f1).length c266_1) ∧ w'.cell? ⟨(ad266.add ((x5_2).toNat * 4)).block, (ad266.add ((x5_2).toNat * 4)).off + 2, none⟩ = some (.slice A266_2 ((rd_T37 l0_3 x5_2).f2).length c266_2) ∧ w'.cell? ⟨(ad266.add ((x5_2).toNat * 4)).block, (ad266.add ((x5_2).toNat * 4)).off + 3, none⟩ = some (.slice A266_3 ((rd_T37 l0_3 x5_2).f3).length c266_3) ∧ w'.cell? (ad267.add ((x5_2).toNat * 4)) = some (.int .i64 ((rd_T37 l1_3 x5_2).f0)) ∧ w'.cell? ⟨(ad267.add ((x5_2).toNat * 4)).block, (ad267.add ((x5_2).toNat * 4)).off + 1, none⟩ = some (.slice A267_1 ((rd_T37 l1_3 x5_2).f1).length c267_1) ∧ w'.cell? ⟨(ad267.add ((x5_2).toNat * 4)).block, (ad267.add ((x5_2).toNat * 4)).off + 2, none⟩ = some (.slice A267_2 ((rd_T37 l1_3 x5_2).f2).length c267_2) ∧ w'.cell? ⟨(ad267.add ((x5_2).toNat * 4)).block, (ad267.add ((x5_2).toNat * 4)).off + 3, none⟩ = some (.slice A267_3 ((rd_T37 l1_3 x5_2).f3).length c267_3)) (ds := []) #[false, false, false, false, false, false, false, false, false, false, false, false] (by kernel_rfl) rfl rfl ⟨(blk_cell BK262.out 0).trans rfl, (blk_cell BK262.out 1).trans rfl, (blk_cell BK262.out 2).trans rfl, (blk_cell BK262.out 3).trans rfl, (blk_cell BK263.out 0).trans rfl, (blk_cell BK263.out 1).trans rfl, (blk_cell BK263.out 2).trans rfl, (blk_cell BK263.out 3).trans rfl, ((HB.out.cell (World.block_lt_of_cell? w _ hw266_0)).trans hw266_0), ((HB.out.cell (World.block_lt_of_cell? w _ hw266_1)).trans hw266_1), ((HB.out.cell (World.block_lt_of_cell? w _ hw266_2)).trans hw266_2), ((HB.out.cell (World.block_lt_of_cell? w _ hw266_3)).trans hw266_3), ((HB.out.cell (World.block_lt_of_cell? w _ hw267_0)).trans hw267_0), ((HB.out.cell (World.block_lt_of_cell? w _ hw267_1)).trans hw267_1), ((HB.out.cell (World.block_lt_of_cell? w _ hw267_2)).trans hw267_2), ((HB.out.cell (World.block_lt_of_cell? w _ hw267_3)).trans hw267_3)⟩ (fun hHeld => ?_); refine with_tabW goboref11_SamePat.tab6 goboref11_SamePat.bits6 (fun HT_ HW_ => ?_)
               generalize wr.drew = w35 at BK262 BK263 HB HR266_1 HR266_2 HR266_3 HR267_1 HR267_2 HR267_3 hx266_0 hx266_1 hx266_2 hx266_3 hx267_0 hx267_1 hx267_2 hx267_3 hHeld ⊢
               refine pure_ (i := 0) (N := some 43) (v := ?_) (a' := ?_) #[true, false, false, false, false, false, false, false, false, false, false, false] rfl rfl (any_of HT_.out (by kernel_rfl)) (fun _ _ _ h => h) (Or.inl ⟨by rfl, ?_⟩) ?_ ?_
               rotate_left
               · intro w'
                 go_simp
                 with_reducible rfl
               rotate_left
               · simp only [Act.put, List.setIfInBounds_toArray, List.set_cons_zero, List.set_cons_succ, i64_w, i32_w]
                 rfl
               refine pure_ (i := 2) (N := some 45) (v := ?_) (a' := ?_) #[true, false, true, false, false, false, false, false, false, false, false, false] rfl rfl (any_of HT_.out (by kernel_rfl)) (fun _ _ _ h => h) (Or.inl ⟨by rfl, ?_⟩) ?_ ?_
               rotate_left
               · intro w'
                 go_simp
                 with_reducible rfl
               rotate_left
               · simp only [Act.put, List.setIfInBounds_toArray, List.set_cons_zero, List.set_cons_succ, i64_w, i32_w]
                 rfl
               refine pure_ (i := 5) (N := some 48) (v := ?_) (a' := ?_) #[true, false, true, false, false, true, false, false, false, false, false, false] rfl rfl (any_of HT_.out (by kernel_rfl)) (fun _ _ _ h => h) (Or.inl ⟨by rfl, ?_⟩) ?_ ?_
               rotate_left
               · intro w'
                 go_simp
                 with_reducible rfl
               rotate_left
               · simp only [Act.put, List.setIfInBounds_toArray, List.set_cons_zero, List.set_cons_succ, i64_w, i32_w]
                 rfl
               refine pure_ (i := 7) (N := some 50) (v := ?_) (a' := ?_) #[true, false, true, false, false, true, false, true, false, false, false, false] rfl rfl (any_of HT_.out (by kernel_rfl)) (fun _ _ _ h => h) (Or.inl ⟨by rfl, ?_⟩) ?_ ?_
               rotate_left
               · intro w'
                 go_simp
                 with_reducible rfl
               rotate_left
               · simp only [Act.put, List.setIfInBounds_toArray, List.set_cons_zero, List.set_cons_succ, i64_w, i32_w]
                 rfl
               refine take_ (i := 1) (N := some 44) (v := ?_) (a' := ?_) #[true, true, true, false, false, true, false, true, false, false, false, false] rfl rfl (take_ofW HT_.out HW_.out (by kernel_rfl)) (fun _ _ _ h => h) (Or.inl ⟨by rfl, ?_⟩) hHeld ?_ ?_
               rotate_left
               · rintro w' ⟨s0, s1, s2, s3, s4, s5, s6, s7, s8, s9, s10, s11, s12, s13, s14, s15⟩
                 go_simp
                 with_reducible rfl
               rotate_left
               · simp only [Act.put, List.setIfInBounds_toArray, List.set_cons_zero, List.set_cons_succ, i64_w, i32_w]
                 rfl
               refine pure_ (i := 3) (N := some 46) (v := ?_) (a' := ?_) #[true, true, true, true, false, true, false, true, false, false, false, false] rfl rfl (any_of HT_.out (by kernel_rfl)) (fun _ _ _ h => h) (Or.inl ⟨by rfl, ?_⟩) ?_ ?_
               rotate_left
               · intro w'
                 go_simp
                 with_reducible rfl
               rotate_left
               · simp only [Act.put, List.setIfInBounds_toArray, List.set_cons_zero, List.set_cons_succ, i64_w, i32_w]
                 rfl
               refine take_ (i := 4) (N := some 47) (v := ?_) (a' := ?_) #[true, true, true, true, true, true, false, true, false, false, false, false] rfl rfl (take_ofW HT_.out HW_.out (by kernel_rfl)) (fun _ _ _ h => h) (Or.inl ⟨by rfl, ?_⟩) hHeld ?_ ?_
               rotate_left
               · rintro w' ⟨s0, s1, s2, s3, s4, s5, s6, s7, s8, s9, s10, s11, s12, s13, s14, s15⟩
                 go_simp
                 with_reducible rfl
               rotate_left
               · simp only [Act.put, List.setIfInBounds_toArray, List.set_cons_zero, List.set_cons_succ, i64_w, i32_w]
                 rfl
               refine take_ (i := 6) (N := some 49) (v := ?_) (a' := ?_) #[true, true, true, true, true, true, true, true, false, false, false, false] rfl rfl (take_ofW HT_.out HW_.out (by kernel_rfl)) (fun _ _ _ h => h) (Or.inl ⟨by rfl, ?_⟩) hHeld ?_ ?_
               rotate_left
               · rintro w' ⟨s0, s1, s2, s3, s4, s5, s6, s7, s8, s9, s10, s11, s12, s13, s14, s15⟩
                 go_simp
                 with_reducible rfl
               rotate_left
               · simp only [Act.put, List.setIfInBounds_toArray, List.set_cons_zero, List.set_cons_succ, i64_w, i32_w]
                 rfl
               refine pure_ (i := 8) (N := some 51) (v := ?_) (a' := ?_) #[true, true, true, true, true, true, true, true, true, false, false, false] rfl rfl (any_of HT_.out (by kernel_rfl)) (fun _ _ _ h => h) (Or.inl ⟨by rfl, ?_⟩) ?_ ?_
               rotate_left
               · intro w'
                 go_simp
                 with_reducible rfl
               rotate_left
               · simp only [Act.put, List.setIfInBounds_toArray, List.set_cons_zero, List.set_cons_succ, i64_w, i32_w]
                 rfl
               refine take_ (i := 9) (N := some 52) (v := ?_) (a' := ?_) #[true, true, true, true, true, true, true, true, true, true, false, false] rfl rfl (take_ofW HT_.out HW_.out (by kernel_rfl)) (fun _ _ _ h => h) (Or.inl ⟨by rfl, ?_⟩) hHeld ?_ ?_
               rotate_left
               · rintro w' ⟨s0, s1, s2, s3, s4, s5, s6, s7, s8, s9, s10, s11, s12, s13, s14, s15⟩
                 go_simp
                 with_reducible rfl
               rotate_left
               · simp only [Act.put, List.setIfInBounds_toArray, List.set_cons_zero, List.set_cons_succ, i64_w, i32_w]
                 rfl
               refine one_ (i := 10) (N := some 53) #[true, true, true, true, true, true, true, true, true, true, true, false] rfl rfl (one_of HT_.out (by kernel_rfl)) (by decide) (fun K hK => ?_)
               refine goes_ Tryd.func14 (by kernel_rfl) rfl #[.agg #[.int .i64 ((rd_T37 l0_3 x5_2).f0), .slice A266_1 ((rd_T37 l0_3 x5_2).f1).length c266_1, .slice A266_2 ((rd_T37 l0_3 x5_2).f2).length c266_2, .slice A266_3 ((rd_T37 l0_3 x5_2).f3).length c266_3], .agg #[.int .i64 ((rd_T37 l1_3 x5_2).f0), .slice A267_1 ((rd_T37 l1_3 x5_2).f1).length c267_1, .slice A267_2 ((rd_T37 l1_3 x5_2).f2).length c267_2, .slice A267_3 ((rd_T37 l1_3 x5_2).f3).length c267_3]] (by rfl) rfl rfl (by (try simp only [List.map_toArray, List.map_cons, List.map_nil]); first | done | rfl | (simp only [List.length_drop, List.length_take]; rfl)) ?_
               with_reducible refine (ih k2 (by have := HJ2.out; have := HK2.out; omega) ((rd_T37 l0_3 x5_2).f0) _ _ ((rd_T37 l0_3 x5_2).f1) _ _ ((rd_T37 l0_3 x5_2).f2) _ _ ((rd_T37 l0_3 x5_2).f3) ((rd_T37 l1_3 x5_2).f0) _ _ ((rd_T37 l1_3 x5_2).f1) _ _ ((rd_T37 l1_3 x5_2).f2) _ _ ((rd_T37 l1_3 x5_2).f3) false _ ?side1 ?side2 ?side3 ?side4 ?side5 ?side6 ?side7 ?side8 ?side9 ?side10 ?side11 ?side12 A27.out).mono ?_
               (case side1 => repeat (first | exact (Kd.C_below HR266_1.out HB.out) | (with_reducible refine Kd.C_alloc ?_ _) | (with_reducible refine Kd.C_drewN ?_ _) | (with_reducible refine Kd.C_drew ?_)))
               (case side2 => exact HC266_1.out)
               (case side3 => repeat (first | exact (Kd.C_below HR266_2.out HB.out) | (with_reducible refine Kd.C_alloc ?_ _) | (with_reducible refine Kd.C_drewN ?_ _) | (with_reducible refine Kd.C_drew ?_)))
               (case side4 => exact HC266_2.out)
               (case side5 => repeat (first | exact (Kd.C_below HR266_3.out HB.out) | (with_reducible refine Kd.C_alloc ?_ _) | (with_reducible refine Kd.C_drewN ?_ _) | (with_reducible refine Kd.C_drew ?_)))
               (case side6 => exact HC266_3.out)
               (case side7 => repeat (first | exact (Kd.C_below HR267_1.out HB.out) | (with_reducible refine Kd.C_alloc ?_ _) | (with_reducible refine Kd.C_drewN ?_ _) | (with_reducible refine Kd.C_drew ?_)))
               (case side8 => exact HC267_1.out)
               (case side9 => repeat (first | exact (Kd.C_below HR267_2.out HB.out) | (with_reducible refine Kd.C_alloc ?_ _) | (with_reducible refine Kd.C_drewN ?_ _) | (with_reducible refine Kd.C_drew ?_)))
               (case side10 => exact HC267_2.out)
               (case side11 => repeat (first | exact (Kd.C_below HR267_3.out HB.out) | (with_reducible refine Kd.C_alloc ?_ _) | (with_reducible refine Kd.C_drewN ?_ _) | (with_reducible refine Kd.C_drew ?_)))
               (case side12 => exact HC267_3.out)
               rintro e w36 ⟨rfl, hb⟩
               refine ⟨_, rfl, ?_⟩
               have n0_ := Aside0.mk (blk_below (g := gb262) (o := .cells #[.int .i64 a0_0, .slice A0_1 l0_1.length c0_1, .slice A0_2 l0_2.length c0_2, .slice (some ad266) l0_3.length c0_3] 37 (0, 0)) (by (with_reducible repeat (first | refine blk_drewN ?_ _ | refine blk_drew ?_ | refine blk_alloc ?_ _)); exact BK262.out) hb)
               have n1_ := Aside0.mk (blk_below (g := gb263) (o := .cells #[.int .i64 a1_0, .slice A1_1 l1_1.length c1_1, .slice A1_2 l1_2.length c1_2, .slice (some ad267) l1_3.length c1_3] 37 (0, 0)) (by (with_reducible repeat (first | refine blk_drewN ?_ _ | refine blk_drew ?_ | refine blk_alloc ?_ _)); exact BK263.out) hb)
               have n2_ := Aside0.mk (below_step (by repeat (first | (with_reducible first | exact HB.out | apply below_alloc | apply pw_below_drewN | apply below_drew1 | refine below_set ?_ GE262.out | refine below_set ?_ GE263.out) | exact HB.out)) hb)
               clear BK262
               clear BK263
               clear HB
               have BK262 := n0_
               have BK263 := n1_
               have HB := n2_
               clear n0_ n1_ n2_
               (try clear hb)
               (try clear hb2)
               (try clear hk)
               (try clear hi)
               refine hK.out _ _ ⟨(blk_cell BK262.out 0).trans rfl, (blk_cell BK262.out 1).trans rfl, (blk_cell BK262.out 2).trans rfl, (blk_cell BK262.out 3).trans rfl, (blk_cell BK263.out 0).trans rfl, (blk_cell BK263.out 1).trans rfl, (blk_cell BK263.out 2).trans rfl, (blk_cell BK263.out 3).trans rfl, ((HB.out.cell (World.block_lt_of_cell? w _ hw266_0)).trans hw266_0), ((HB.out.cell (World.block_lt_of_cell? w _ hw266_1)).trans hw266_1), ((HB.out.cell (World.block_lt_of_cell? w _ hw266_2)).trans hw266_2), ((HB.out.cell (World.block_lt_of_cell? w _ hw266_3)).trans hw266_3), ((HB.out.cell (World.block_lt_of_cell? w _ hw267_0)).trans hw267_0), ((HB.out.cell (World.block_lt_of_cell? w _ hw267_1)).trans hw267_1), ((HB.out.cell (World.block_lt_of_cell? w _ hw267_2)).trans hw267_2), ((HB.out.cell (World.block_lt_of_cell? w _ hw267_3)).trans hw267_3)⟩ (fun hHeld => ?_)
               clear hK K
               refine norm_ (a' := ?_) ?_ ?_
               rotate_left
               · show Act.put _ (some 53) _ = _
                 simp only [Act.put, List.setIfInBounds_toArray, List.set_cons_zero, List.set_cons_succ, i64_w, i32_w]
                 rfl
               refine pure_ (i := 11) (N := some 54) (v := ?_) (a' := ?_) #[true, true, true, true, true, true, true, true, true, true, true, true] rfl rfl (any_of HT_.out (by kernel_rfl)) (fun _ _ _ h => h) (Or.inl ⟨by rfl, ?_⟩) ?_ ?_
               rotate_left
               · intro w'
                 go_simp
                 with_reducible rfl
               rotate_left
               · simp only [Act.put, List.setIfInBounds_toArray, List.set_cons_zero, List.set_cons_succ, i64_w, i32_w]
                 rfl
               refine done_ (done_of HT_.out (by kernel_rfl)) ?_
               try go_wp2
               go_ret
               exact ⟨by first | rfl | (simp [errW_none, errW_some] <;> rfl) | (simp [*, errW_none, errW_some] <;> rfl), by repeat (first | (with_reducible first | exact HB.out | apply below_alloc | apply pw_below_drewN | apply below_drew1 | refine below_set ?_ GE262.out | refine below_set ?_ GE263.out) | exact HB.out)⟩
           · rw [if_neg c26] at H
             exact absurd H (by simp)
         · rw [if_neg c25] at H
           exact absurd H (by simp)
       · rw [if_neg c24] at H
         have c24b0 : decide (x5_2 < (l0_3.length : Int)) = false := decide_eq_false c24
         clear c24
         obtain rfl := Option.some.inj H
         have hnb37 := NB262_263.out
         have hnc37 := NB263_262.out
         have hcz38_0 : wr.cell? ⟨gb262, 0, none⟩ = some (.int .i64 a0_0) := (blk_cell BK262.out 0).trans rfl
         have hcz38_1 : wr.cell? ⟨gb262, 1, none⟩ = some (.slice A0_1 l0_1.length c0_1) := (blk_cell BK262.out 1).trans rfl
         have hcz38_2 : wr.cell? ⟨gb262, 2, none⟩ = some (.slice A0_2 l0_2.length c0_2) := (blk_cell BK262.out 2).trans rfl
         have hcz38_3 : wr.cell? ⟨gb262, 3, none⟩ = some (.slice A0_3 l0_3.length c0_3) := (blk_cell BK262.out 3).trans rfl
         have hfz38_0 := blk_frozen BK262.out 0
         have hfz38_1 := blk_frozen BK262.out 1
         have hfz38_2 := blk_frozen BK262.out 2
         have hfz38_3 := blk_frozen BK262.out 3
         go_wp2
         go_ret
         exact ⟨by first | rfl | (simp [errW_none, errW_some] <;> rfl) | (simp [*, errW_none, errW_some] <;> rfl), by repeat (first | (with_reducible first | exact HB.out | apply below_alloc | apply pw_below_drewN | apply below_drew1 | refine below_set ?_ GE262.out | refine below_set ?_ GE263.out) | exact HB.out)⟩
end Go.Proofs.YthdfmbmbjpmlaaaDoor.Rn
end
section
set_option linter.unusedVariables false
set_option linter.unusedSimpArgs false
namespace Go.Proofs.YthdfmbmbjpmlaaaDoor.Rn
open Go Go.RowKit Go.Proofs.YthdfmbmbjpmlaaaDoorW.PrintWords Go.Proofs.YthdfmbmbjpmlaaaDoorW.PrintLast Go.Proofs.YthdfmbmbjpmlaaaDoorW.PrintMore
def EvS {α : Type} (g : Nat → Option α) (r : α) : Prop := ∃ K, ∀ k, K ≤ k → g k = some r
theorem EvS.succ {α : Type} {g h : Nat → Option α} {r : α} (e : ∀ k, g (k + 1) = h k) (H : EvS h r) : EvS g r := by
 obtain ⟨K, hK⟩ := H
 refine ⟨K + 1, fun k hk => ?_⟩
 obtain ⟨k, rfl⟩ : ∃ m, k = m + 1 := ⟨k - 1, by omega⟩
 rw [e]
 exact hK k (by omega)
theorem EvS.now {α : Type} {r : α} : EvS (fun _ => some r) r := ⟨0, fun _ _ => rfl⟩
theorem EvS.bind {α β : Type} {g : Nat → Option α} {r : α} {h : Nat → α → Option β} {s : β} (H : EvS g r) (H2 : EvS (fun k => h k r) s) : EvS (fun k => (g k).bind (h k)) s := by
 obtain ⟨K, hK⟩ := H
 obtain ⟨L, hL⟩ := H2
 refine ⟨max K L, fun k hk => ?_⟩
 show (g k).bind (h k) = some s
 rw [hK k (by omega)]
 exact hL k (by omega)
theorem EvS.congr {α : Type} {g h : Nat → Option α} {r : α} (e : ∀ k, g k = h k) (H : EvS h r) : EvS g r := by
 obtain ⟨K, hK⟩ := H
 exact ⟨K, fun k hk => (e k).trans (hK k hk)⟩
theorem rd_pt (l : List Pt) (i : Nat) (hi : i < l.length) : rd_T37 l (i : Int) = l[i] := by
 unfold rd_T37
 rw [Int.toNat_natCast, List.getD_eq_getElem?_getD, List.getElem?_eq_getElem hi]
 rfl
theorem len_size : ∀ l : List Pt, l.length ≤ sizeL l ∧ deepL l ≤ sizeL l
 | [] => ⟨Nat.le_refl _, Nat.le_refl _⟩
 | ⟨a, s, t, m⟩ :: l => by
  have h1 := len_size l
  have h2 := len_size m
  simp only [List.length_cons, sizeL, deepL, sizeP, deepP]
  omega
theorem w64_1 {n : Nat} (h : n ≤ 4000) : wrap64 ((n : Int) + 1) = ((n + 1 : Nat) : Int) := by
 unfold wrap64
 omega
theorem mx_n (a b : Nat) : mx (a : Int) (b : Int) = ((max a b : Nat) : Int) := by
 unfold mx
 split <;> omega
mutual
theorem cnt_ev : ∀ (x : Pt), sizeP x ≤ 1000 → EvS (fun k => gram_Count.f k x.f0 x.f1 x.f2 x.f3) ((sizeP x : Int), (deepP x : Int))
 | ⟨a, s, t, l⟩, h => by
  simp only [sizeP] at h
  have hls := len_size l
  refine EvS.succ (h := fun k => gram_Count.l0 k 1 0 l (l.length : Int) 0) (fun k => by simp only [gram_Count.f]) ?_
  have := cnt_evl l l 0 1 0 rfl (by omega) (by omega) (by omega) (by omega)
  simp only [sizeP, deepP]
  rw [Nat.add_comm 1, Nat.zero_max] at this
  exact this
theorem cnt_evl : ∀ (r l : List Pt) (i n d : Nat), l.drop i = r → i ≤ l.length → l.length ≤ 1000 → 1 ≤ n ∧ n + sizeL r ≤ 1001 → d ≤ 1001 → EvS (fun k => gram_Count.l0 k (n : Int) (d : Int) l (l.length : Int) (i : Int)) (((n + sizeL r : Nat) : Int), ((max d (deepL r) + 1 : Nat) : Int))
 | [], l, i, n, d, e, hi, hl, hn, hd => by
  have hl : l.length ≤ i := by
   have := congrArg List.length e
   simp at this
   omega
  refine EvS.succ (h := fun k => some ((n : Int), wrap64 ((d : Int) + 1))) (fun k => by simp only [gram_Count.l0]; rw [if_neg (by omega)]) ?_
  rw [w64_1 (by omega)]
  simp only [sizeL, deepL, Nat.add_zero, Nat.max_zero]
  exact EvS.now
 | x :: r, l, i, n, d, e, hi, hl, hn, hd => by
  have hlt : i < l.length := by
   have := congrArg List.length e
   simp at this
   omega
  have hx : l[i] = x ∧ l.drop (i + 1) = r := by
   rw [List.drop_eq_getElem_cons hlt] at e
   injection e with e1 e2
   exact ⟨e1, e2⟩
  simp only [sizeL] at hn
  have hls := len_size [x]
  simp only [deepL, sizeL] at hls
  refine EvS.succ (h := fun k => (gram_Count.f k x.f0 x.f1 x.f2 x.f3).bind fun b => gram_Count.l0 k (wrap64 ((n : Int) + b.1)) (mx (d : Int) b.2) l (l.length : Int) (wrap64 ((i : Int) + 1))) (fun k => by
   simp only [gram_Count.l0]
   rw [if_pos (by omega), if_pos (by omega), if_pos (by omega), rd_pt l i hlt, hx.1]) ?_
  refine EvS.bind (cnt_ev x (by omega)) ?_
  have e1 : wrap64 ((n : Int) + (sizeP x : Int)) = ((n + sizeP x : Nat) : Int) := by unfold wrap64; omega
  simp only [e1, mx_n, w64_1 (show i ≤ 4000 by omega)]
  have := cnt_evl r l (i + 1) (n + sizeP x) (max d (deepP x)) hx.2 (by omega) hl (by omega) (by omega)
  simp only [sizeL, deepL]
  rw [← Nat.add_assoc, ← Nat.max_assoc]
  exact this
end
mutual
theorem rcnt_ev : ∀ (x : Pt), sizeP x ≤ 1000 → EvS (fun k => goboref11_CountPat.f k x.f0 x.f1 x.f2 x.f3) ((sizeP x : Int), (deepP x : Int))
 | ⟨a, s, t, l⟩, h => by
  simp only [sizeP] at h
  have hls := len_size l
  refine EvS.succ (h := fun k => goboref11_CountPat.l0 k 1 0 0 a s t l) (fun k => by simp only [goboref11_CountPat.f]) ?_
  have := rcnt_evl a s t l l 0 1 0 rfl (by omega) (by omega) (by omega) (by omega)
  simp only [sizeP, deepP]
  rw [Nat.add_comm 1, Nat.zero_max] at this
  exact this
theorem rcnt_evl (a : Int) (s t : List ByteArray) : ∀ (r l : List Pt) (i n d : Nat), l.drop i = r → i ≤ l.length → l.length ≤ 1000 → 1 ≤ n ∧ n + sizeL r ≤ 1001 → d ≤ 1001 → EvS (fun k => goboref11_CountPat.l0 k (n : Int) (d : Int) (i : Int) a s t l) (((n + sizeL r : Nat) : Int), ((max d (deepL r) + 1 : Nat) : Int))
 | [], l, i, n, d, e, hi, hl, hn, hd => by
  have hl : l.length ≤ i := by
   have := congrArg List.length e
   simp at this
   omega
  refine EvS.succ (h := fun k => some ((n : Int), wrap64 ((d : Int) + 1))) (fun k => by simp only [goboref11_CountPat.l0]; rw [if_neg (by omega)]) ?_
  rw [w64_1 (by omega)]
  simp only [sizeL, deepL, Nat.add_zero, Nat.max_zero]
  exact EvS.now
 | x :: r, l, i, n, d, e, hi, hl, hn, hd => by
  have hlt : i < l.length := by
   have := congrArg List.length e
   simp at this
   omega
  have hx : l[i] = x ∧ l.drop (i + 1) = r := by
   rw [List.drop_eq_getElem_cons hlt] at e
   injection e with e1 e2
   exact ⟨e1, e2⟩
  simp only [sizeL] at hn
  have hls := len_size [x]
  simp only [deepL, sizeL] at hls
  refine EvS.succ (h := fun k => (goboref11_CountPat.f k x.f0 x.f1 x.f2 x.f3).bind fun b => goboref11_CountPat.l0 k (wrap64 ((n : Int) + b.1)) (mx (d : Int) b.2) (wrap64 ((i : Int) + 1)) a s t l) (fun k => by
   simp only [goboref11_CountPat.l0]
   rw [if_pos (by omega), if_pos (by omega), if_pos (by omega), rd_pt l i hlt, hx.1]) ?_
  refine EvS.bind (rcnt_ev x (by omega)) ?_
  have e1 : wrap64 ((n : Int) + (sizeP x : Int)) = ((n + sizeP x : Nat) : Int) := by unfold wrap64; omega
  simp only [e1, mx_n, w64_1 (show i ≤ 4000 by omega)]
  have := rcnt_evl a s t r l (i + 1) (n + sizeP x) (max d (deepP x)) hx.2 (by omega) hl (by omega) (by omega)
  simp only [sizeL, deepL]
  rw [← Nat.add_assoc, ← Nat.max_assoc]
  exact this
end
theorem nodeL_mem {T : List Tok} : ∀ {l : List Pt}, nodeL T l = none → ∀ x, x ∈ l → nodeR T x = none
 | [], _, x, hx => by simp at hx
 | y :: l, h, x, hx => by
  rw [nodeL] at h
  cases hy : nodeR T y with
  | some c => rw [hy] at h; cases h
  | none =>
   rw [hy] at h
   rcases List.mem_cons.1 hx with rfl | hx
   · exact hy
   · exact nodeL_mem h x hx
theorem node_parts {T : List Tok} {a : Int} {s t : List ByteArray} {l : List Pt} (h : nodeR T ⟨a, s, t, l⟩ = none) : (l.length : Int) = partsP a ∧ ∀ x, x ∈ l → nodeR T x = none := by
 rw [nodeR] at h
 by_cases hs : shapedS ⟨a, s, t, l⟩ = true
 · rw [if_pos hs] at h
   have h2 : nodeL T l = none := by
    cases h3 : namesS T (if a = 3 then 1 else 0) [] s with
    | some c => rw [h3] at h; cases h
    | none =>
     rw [h3] at h
     cases h4 : namesS T 2 [] t with
     | some c => rw [h4] at h; cases h
     | none => rw [h4] at h; exact h
   unfold shapedS at hs
   simp only [Bool.and_eq_true, beq_iff_eq] at hs
   exact ⟨hs.1.1, nodeL_mem h2⟩
 · rw [if_neg hs] at h
   cases h
theorem remp_ev {T : List Tok} : ∀ (N : Nat) (x : Pt), sizeP x < N → nodeR T x = none → EvS (fun k => goboref11_Empty.f k x.f0 x.f1 x.f2 x.f3) (empP x)
 | 0, x, h, _ => absurd h (Nat.not_lt_zero _)
 | N + 1, ⟨a, s, t, l⟩, h, hn => by
  have hp := node_parts hn
  simp only [sizeP] at h
  have hb1 : a = 1 → (a == 1) = true := fun e => by subst e; rfl
  have two : a = 5 ∨ a = 6 → ∃ p q, l = [p, q] := fun e => by
   have h2 : (l.length : Int) = 2 := hp.1.trans (by rcases e with rfl | rfl <;> rfl)
   match l, h2 with
   | [p, q], _ => exact ⟨p, q, rfl⟩
   | [], h2 => simp at h2
   | [_], h2 => simp at h2
   | _ :: _ :: _ :: _, h2 => simp at h2; omega
  have hE : empP ⟨a, s, t, l⟩ = if a = 1 ∨ a = 4 ∨ a = 7 then true else if a = 5 then !empN l else if a = 6 then empY l else false := by rw [empP]
  have key : ∀ b : Bool, (b = true ↔ a = 1 ∨ a = 4 ∨ a = 7) → EvS (fun k => goboref11_Empty.j0 k a b a s t l) (empP ⟨a, s, t, l⟩) := fun b hb => by
   rw [hE]
   by_cases hc : a = 1 ∨ a = 4 ∨ a = 7
   · rw [if_pos hc]
     exact EvS.succ (h := fun _ => some true) (fun k => by simp only [goboref11_Empty.j0]; rw [if_pos (hb.2 hc)]) EvS.now
   · rw [if_neg hc]
     have hb' : ¬ b = true := fun e => hc (hb.1 e)
     by_cases h5 : a = 5
     · rw [if_pos h5]
       obtain ⟨p, q, rfl⟩ := two (Or.inl h5)
       simp only [sizeL] at h
       have ep := remp_ev N p (by omega) (hp.2 p (by simp))
       have eq := remp_ev N q (by omega) (hp.2 q (by simp))
       have r0 : rd_T37 [p, q] 0 = p := rfl
       have r1 : rd_T37 [p, q] 1 = q := rfl
       refine EvS.succ (h := fun k => (goboref11_Empty.f k p.f0 p.f1 p.f2 p.f3).bind fun u => if u = true then ((goboref11_Empty.f k q.f0 q.f1 q.f2 q.f3).bind fun v => some v) else some false) (fun k => by
        simp only [goboref11_Empty.j0, r0, r1]
        rw [if_neg hb', if_pos h5, if_pos (by simp), if_pos (by simp)]
        simp) ?_
       refine EvS.bind ep ?_
       cases h1 : empP p with
       | true =>
        simp only [if_true]
        refine EvS.congr (h := fun k => (goboref11_Empty.f k q.f0 q.f1 q.f2 q.f3).bind fun v => some v) (fun k => rfl) ?_
        refine EvS.bind eq ?_
        simp only [empN, h1, Bool.not_true, Bool.false_or, Bool.or_false, Bool.not_not]
        exact EvS.now
       | false =>
        simp only [empN, h1, Bool.not_false, Bool.true_or, Bool.not_true]
        exact EvS.now
     · rw [if_neg h5]
       by_cases h6 : a = 6
       · rw [if_pos h6]
         obtain ⟨p, q, rfl⟩ := two (Or.inr h6)
         simp only [sizeL] at h
         have ep := remp_ev N p (by omega) (hp.2 p (by simp))
         have eq := remp_ev N q (by omega) (hp.2 q (by simp))
         have r0 : rd_T37 [p, q] 0 = p := rfl
         have r1 : rd_T37 [p, q] 1 = q := rfl
         refine EvS.succ (h := fun k => (goboref11_Empty.f k p.f0 p.f1 p.f2 p.f3).bind fun u => if u = true then some true else ((goboref11_Empty.f k q.f0 q.f1 q.f2 q.f3).bind fun v => some v)) (fun k => by
          simp only [goboref11_Empty.j0, r0, r1]
          rw [if_neg hb', if_neg h5, if_pos h6, if_pos (by simp), if_pos (by simp)]
          simp) ?_
         refine EvS.bind ep ?_
         cases h1 : empP p with
         | true =>
          simp only [empY, h1, Bool.true_or]
          exact EvS.now
         | false =>
          simp only [Bool.false_eq_true, if_false]
          refine EvS.congr (h := fun k => (goboref11_Empty.f k q.f0 q.f1 q.f2 q.f3).bind fun v => some v) (fun k => rfl) ?_
          refine EvS.bind eq ?_
          simp only [empY, h1, Bool.false_or, Bool.or_false]
          exact EvS.now
       · rw [if_neg h6]
         exact EvS.succ (h := fun _ => some false) (fun k => by simp only [goboref11_Empty.j0]; rw [if_neg hb', if_neg h5, if_neg h6]) EvS.now
  by_cases h1 : a = 1
  · exact EvS.succ (h := fun k => goboref11_Empty.j0 k a (a == 1) a s t l) (fun k => by simp only [goboref11_Empty.f]; rw [if_pos h1]) (key _ (by simp [h1]))
  · by_cases h4 : a = 4
    · exact EvS.succ (h := fun k => goboref11_Empty.j0 k a (a == 4) a s t l) (fun k => by simp only [goboref11_Empty.f]; rw [if_neg h1, if_pos h4]) (key _ (by simp [h4]))
    · exact EvS.succ (h := fun k => goboref11_Empty.j0 k a (a == 7) a s t l) (fun k => by simp only [goboref11_Empty.f]; rw [if_neg h1, if_neg h4]) (key _ (by simp [h1, h4]))
theorem rtexts_l (l m : List ByteArray) (hlm : l.length = m.length) (hl : l.length ≤ 9223372036854775807) (d : Nat) : ∀ (i : Nat), i ≤ l.length → l.length - i = d → EvS (fun k => goboref11_texts.l0 k l m (i : Int)) (eqL txQ (l.drop i) (m.drop i)) := by
 induction d with
 | zero =>
  intro i h1 h2
  refine EvS.succ (h := fun _ => some true) (fun k => by simp only [goboref11_texts.l0]; rw [if_neg (by omega)]) ?_
  rw [List.drop_of_length_le (by omega), List.drop_of_length_le (by omega)]
  exact EvS.now
 | succ d ih =>
  intro i h1 h2
  have hi : i < l.length := by omega
  have hj : i < m.length := by omega
  have e2 : wrap64 ((i : Int) + 1) = ((i + 1 : Nat) : Int) := by unfold wrap64; omega
  have hi2 := ih (i + 1) (by omega) (by omega)
  rw [eqL_drop txQ hi hj]
  obtain ⟨x, hx⟩ : ∃ x, l[i] = x := ⟨_, rfl⟩
  obtain ⟨y, hy⟩ : ∃ y, m[i] = y := ⟨_, rfl⟩
  rw [hx, hy]
  refine EvS.succ (h := fun k => if x.toList = y.toList then goboref11_texts.l0 k l m ((i + 1 : Nat) : Int) else some false) (fun k => by
   simp only [goboref11_texts.l0]
   rw [if_pos (by omega), if_pos (by omega), if_pos (by omega), rdOf_at l i hi, rdOf_at m i hj, e2, hx, hy]) ?_
  clear hx hy e2 ih h1 h2
  unfold txQ at hi2 ⊢
  by_cases h0 : x = y
  · subst h0
    simp only [if_true, decide_true, Bool.true_and]
    exact hi2
  · have h1 : ¬ (x.toList = y.toList) := fun e => h0 (text_ext e)
    simp only [h1, if_false, h0, decide_false, Bool.false_and]
    exact EvS.now
theorem rtexts_ev (l m : List ByteArray) (hl : l.length ≤ 9223372036854775807) : EvS (fun k => goboref11_texts.f k l m) (eqL txQ l m) := by
 by_cases h : l.length = m.length
 · exact EvS.congr (h := fun k => goboref11_texts.l0 k l m ((0 : Nat) : Int)) (fun k => by unfold goboref11_texts.f; rw [if_pos (by omega)]; rfl) (rtexts_l l m h hl l.length 0 (by omega) (by omega))
 · rw [eqL_len _ h]
   exact EvS.congr (h := fun k => some false) (fun k => by unfold goboref11_texts.f; rw [if_neg (by omega)]) EvS.now
mutual
/-- no row is longer than Go lets one be -/
def smallP : Pt → Prop
 | ⟨_, s, t, l⟩ => s.length ≤ 9223372036854775807 ∧ t.length ≤ 9223372036854775807 ∧ l.length ≤ 9223372036854775807 ∧ smallL l
def smallL : List Pt → Prop
 | [] => True
 | x :: l => smallP x ∧ smallL l
end
theorem smallL_of : ∀ {l : List Pt}, (∀ x, x ∈ l → smallP x) → smallL l
 | [], _ => trivial
 | x :: l, h => ⟨h x (List.mem_cons_self ..), smallL_of (fun y hy => h y (List.mem_cons_of_mem _ hy))⟩
theorem small_of : ∀ (N : Nat) (x : Pt), sizeP x < N → ∀ (w : World) (cs : List Value), kPt.K w x cs → smallP x
 | 0, x, h, _, _, _ => absurd h (Nat.not_lt_zero _)
 | N + 1, ⟨a, s, t, l⟩, h, w, cs, hK => by
  obtain ⟨A1, p1, A2, p2, A3, p3, rfl, hp1, hC1, hp2, hC2, hp3, hC3⟩ := k37_open hK
  have h1 : s.length ≤ 9223372036854775807 := hC1.2.1
  have h2 : t.length ≤ 9223372036854775807 := hC2.2.1
  have h3 : l.length ≤ 9223372036854775807 := hC3.2.1
  refine ⟨h1, h2, h3, smallL_of (fun x hx => ?_)⟩
  obtain ⟨i, hi, rfl⟩ := List.getElem_of_mem hx
  obtain ⟨g, o, rfl, _, hcell⟩ := row_cells hC3 (show 0 < l.length by omega) (by decide)
  obtain ⟨ds, _, hK2, _⟩ := hcell i l[i] (List.getElem?_eq_getElem hi)
  refine small_of N l[i] ?_ w ds hK2
  have hs : ∀ {m : List Pt} {y : Pt}, y ∈ m → sizeP y ≤ sizeL m := fun {m} => by
   induction m with
   | nil => intro y hy; simp at hy
   | cons z m ih =>
    intro y hy
    simp only [sizeL]
    rcases List.mem_cons.1 hy with rfl | hy
    · omega
    · have := ih hy; omega
  have := hs hx
  simp only [sizeP] at h
  omega
theorem samePl_len : ∀ {l m : List Pt}, l.length ≠ m.length → samePl l m = false
 | [], [], h => absurd rfl h
 | [], _ :: _, _ => by rw [samePl]
 | _ :: _, [], _ => by rw [samePl]
 | x :: l, y :: m, h => by rw [samePl, samePl_len (fun e => h (by simp [e])), Bool.and_false]
mutual
theorem rsame_ev : ∀ (x y : Pt), smallP x → EvS (fun k => goboref11_SamePat.f k x.f0 x.f1 x.f2 x.f3 y.f0 y.f1 y.f2 y.f3) (samePt x y)
 | ⟨a, s, t, l⟩, ⟨b, s', t', m⟩, h => by
  simp only [smallP] at h
  have e1 := rtexts_ev s s' h.1
  have e2 := rtexts_ev t t' h.2.1
  have jt : EvS (fun k => goboref11_SamePat.j0 k true a s t l b s' t' m) false := EvS.succ (h := fun _ => some false) (fun k => by simp only [goboref11_SamePat.j0, if_true]) EvS.now
  rw [samePt]
  by_cases ha : a = b
  · have ha' : (a == (⟨b, s', t', m⟩ : Pt).f0) = true := beq_iff_eq.2 ha
    rw [ha', Bool.true_and]
    by_cases hl : l.length = m.length
    · refine EvS.succ (h := fun k => (goboref11_texts.f k s s').bind fun u => if u = true then ((goboref11_texts.f k t t').bind fun v => goboref11_SamePat.j0 k (!v) a s t l b s' t' m) else goboref11_SamePat.j0 k true a s t l b s' t' m) (fun k => by
       simp only [goboref11_SamePat.f]
       rw [if_pos ha, if_pos (by omega)]) ?_
      refine EvS.bind e1 ?_
      show EvS _ (eqL txQ s s' && (eqL txQ t t' && samePl l m))
      cases h1 : eqL txQ s s' with
      | false =>
       simp only [Bool.false_eq_true, if_false, Bool.false_and]
       exact jt
      | true =>
       simp only [if_true, Bool.true_and]
       refine EvS.bind e2 ?_
       cases h2 : eqL txQ t t' with
       | false =>
        simp only [Bool.not_false, Bool.false_and]
        exact jt
       | true =>
        simp only [Bool.not_true, Bool.true_and]
        refine EvS.succ (h := fun k => goboref11_SamePat.l0 k ((0 : Nat) : Int) a s t l b s' t' m) (fun k => by simp only [goboref11_SamePat.j0]; rw [if_neg (by simp)]; rfl) ?_
        exact rsame_evl a s t b s' t' l l m m 0 rfl rfl hl (by omega) h.2.2.1 h.2.2.2
    · rw [show samePl l (⟨b, s', t', m⟩ : Pt).f3 = false from samePl_len hl, Bool.and_false, Bool.and_false]
      refine EvS.succ (h := fun k => goboref11_SamePat.j0 k true a s t l b s' t' m) (fun k => by
       simp only [goboref11_SamePat.f]
       rw [if_pos ha, if_neg (by omega)]) jt
  · have ha' : (a == (⟨b, s', t', m⟩ : Pt).f0) = false := beq_eq_false_iff_ne.2 ha
    rw [ha', Bool.false_and]
    refine EvS.succ (h := fun k => goboref11_SamePat.j0 k true a s t l b s' t' m) (fun k => by
     simp only [goboref11_SamePat.f]
     rw [if_neg ha]) jt
theorem rsame_evl (a : Int) (s t : List ByteArray) (b : Int) (s' t' : List ByteArray) : ∀ (r l r' m : List Pt) (i : Nat), l.drop i = r → m.drop i = r' → l.length = m.length → i ≤ l.length → l.length ≤ 9223372036854775807 → smallL r → EvS (fun k => goboref11_SamePat.l0 k (i : Int) a s t l b s' t' m) (samePl r r')
 | [], l, r', m, i, e, e', hlm, hi, hl, hs => by
  have h1 : l.length ≤ i := by
   have := congrArg List.length e
   simp at this
   omega
  have h2 : r' = [] := by rw [← e']; exact List.drop_of_length_le (by omega)
  subst h2
  rw [samePl]
  exact EvS.succ (h := fun _ => some true) (fun k => by simp only [goboref11_SamePat.l0]; rw [if_neg (by omega)]) EvS.now
 | x :: r, l, [], m, i, e, e', hlm, hi, hl, hs => by
  have h1 := congrArg List.length e
  have h2 := congrArg List.length e'
  simp at h1 h2
  omega
 | x :: r, l, y :: r', m, i, e, e', hlm, hi, hl, hs => by
  have hlt : i < l.length := by
   have := congrArg List.length e
   simp at this
   omega
  have hx : l[i] = x ∧ l.drop (i + 1) = r := by
   rw [List.drop_eq_getElem_cons hlt] at e
   injection e with e1 e2
   exact ⟨e1, e2⟩
  have hy : m[i]'(by omega) = y ∧ m.drop (i + 1) = r' := by
   rw [List.drop_eq_getElem_cons (by omega)] at e'
   injection e' with e1 e2
   exact ⟨e1, e2⟩
  simp only [smallL] at hs
  have e2 : wrap64 ((i : Int) + 1) = ((i + 1 : Nat) : Int) := by unfold wrap64; omega
  rw [samePl]
  refine EvS.succ (h := fun k => (goboref11_SamePat.f k x.f0 x.f1 x.f2 x.f3 y.f0 y.f1 y.f2 y.f3).bind fun u => if u = true then goboref11_SamePat.l0 k ((i + 1 : Nat) : Int) a s t l b s' t' m else some false) (fun k => by
   simp only [goboref11_SamePat.l0]
   rw [if_pos (by omega), if_pos (by omega), if_pos (by omega), rd_pt l i hlt, rd_pt m i (by omega), hx.1, hy.1, e2]) ?_
  refine EvS.bind (rsame_ev x y hs.1) ?_
  cases h1 : samePt x y with
  | false =>
   simp only [Bool.false_eq_true, if_false, Bool.false_and]
   exact EvS.now
  | true =>
   simp only [if_true, Bool.true_and]
   exact rsame_evl a s t b s' t' r l r' m (i + 1) hx.2 hy.2 hlm (by omega) hl hs.2
end
mutual
theorem same_self : ∀ x : Pt, samePt x x = true
 | ⟨a, s, t, l⟩ => by
  have h : ∀ l : List ByteArray, eqL txQ l l = true := fun l => by
   induction l with
   | nil => rfl
   | cons x l ih => rw [eqL, ih]; simp [txQ]
  rw [samePt, h, h, same_selfl l]
  simp
theorem same_selfl : ∀ l : List Pt, samePl l l = true
 | [] => by rw [samePl]
 | x :: l => by rw [samePl, same_self x, same_selfl l]; rfl
end
end Go.Proofs.YthdfmbmbjpmlaaaDoor.Rn
end
section
set_option linter.unusedVariables false
set_option linter.unusedSimpArgs false
namespace Go.Proofs.YthdfmbmbjpmlaaaDoor.Rn
open Go Go.RowKit Go.Proofs.YthdfmbmbjpmlaaaDoorW.PrintWords Go.Proofs.YthdfmbmbjpmlaaaDoorW.PrintLast Go.Proofs.YthdfmbmbjpmlaaaDoorW.PrintMore
theorem cntP_any (x : Pt) (hs : sizeP x ≤ 1000) (w0 W : World) (cs : List Value) (hB : Below w0.heap.size w0 W) (hK : kPt.K w0 x cs) :
 Calls Tryd.prog 9 #[.agg cs.toArray] W fun e W' => e = .returned (.tuple #[.int .i64 (sizeP x), .int .i64 (deepP x)]) ∧ Below W.heap.size W W' := by
 obtain ⟨A1, p1, A2, p2, A3, p3, rfl, q1, C1, q2, C2, q3, C3⟩ := k37_open hK
 obtain ⟨K, h⟩ := cnt_ev x hs
 exact gram_Count.calls K x.f0 A1 p1 x.f1 A2 p2 x.f2 A3 p3 x.f3 _ _ W (Kd.C_below C1 hB) q1 (Kd.C_below C2 hB) q2 (Kd.C_below C3 hB) q3 (h K (Nat.le_refl K))
theorem rcntP_any (x : Pt) (hs : sizeP x ≤ 1000) (w0 W : World) (cs : List Value) (hB : Below w0.heap.size w0 W) (hK : kPt.K w0 x cs) :
 Calls Tryd.prog 10 #[.agg cs.toArray] W fun e W' => e = .returned (.tuple #[.int .i64 (sizeP x), .int .i64 (deepP x)]) ∧ Below W.heap.size W W' := by
 obtain ⟨A1, p1, A2, p2, A3, p3, rfl, q1, C1, q2, C2, q3, C3⟩ := k37_open hK
 obtain ⟨K, h⟩ := rcnt_ev x hs
 exact goboref11_CountPat.calls K x.f0 A1 p1 x.f1 A2 p2 x.f2 A3 p3 x.f3 _ _ W (Kd.C_below C1 hB) q1 (Kd.C_below C2 hB) q2 (Kd.C_below C3 hB) q3 (h K (Nat.le_refl K))
theorem remp_any {T : List Tok} (x : Pt) (hn : nodeR T x = none) (w0 W : World) (cs : List Value) (hB : Below w0.heap.size w0 W) (hK : kPt.K w0 x cs) :
 Calls Tryd.prog 12 #[.agg cs.toArray] W fun e W' => e = .returned (.bool (empP x)) ∧ Below W.heap.size W W' := by
 obtain ⟨A1, p1, A2, p2, A3, p3, rfl, q1, C1, q2, C2, q3, C3⟩ := k37_open hK
 obtain ⟨K, h⟩ := remp_ev (sizeP x + 1) x (Nat.lt_succ_self _) hn
 exact goboref11_Empty.calls K x.f0 A1 p1 x.f1 A2 p2 x.f2 A3 p3 x.f3 _ W (Kd.C_below C1 hB) q1 (Kd.C_below C2 hB) q2 (Kd.C_below C3 hB) q3 (h K (Nat.le_refl K))
theorem rsame_any (x y : Pt) (w0 W : World) (cs ds : List Value) (hB : Below w0.heap.size w0 W) (hK : kPt.K w0 x cs) (hL : kPt.K w0 y ds) :
 Calls Tryd.prog 14 #[.agg cs.toArray, .agg ds.toArray] W fun e W' => e = .returned (.bool (samePt x y)) ∧ Below W.heap.size W W' := by
 have hsm := small_of (sizeP x + 1) x (Nat.lt_succ_self _) w0 cs hK
 obtain ⟨A1, p1, A2, p2, A3, p3, rfl, q1, C1, q2, C2, q3, C3⟩ := k37_open hK
 obtain ⟨B1, r1, B2, r2, B3, r3, rfl, t1, D1, t2, D2, t3, D3⟩ := k37_open hL
 obtain ⟨K, h⟩ := rsame_ev x y hsm
 exact goboref11_SamePat.calls K x.f0 A1 p1 x.f1 A2 p2 x.f2 A3 p3 x.f3 y.f0 B1 r1 y.f1 B2 r2 y.f2 B3 r3 y.f3 _ W (Kd.C_below C1 hB) q1 (Kd.C_below C2 hB) q2 (Kd.C_below C3 hB) q3 (Kd.C_below D1 hB) t1 (Kd.C_below D2 hB) t2 (Kd.C_below D3 hB) t3 (h K (Nat.le_refl K))
structure PatOk (T : List Tok) (x : Pt) : Prop where
 n : nodeR T x = none
 s : sizeP x ≤ 1000
theorem stepsTo_mem {m : Nat} {l : List Int} {k : Int} {s : S39} : ∀ {j : Nat}, s ∈ stepsTo m l k j → ∃ i, s = stepOf m l k i
 | 0, h => by simp [stepsTo] at h
 | j + 1, h => by
  rw [stepsTo] at h
  rcases List.mem_append.1 h with h | h
  · exact stepsTo_mem h
  · exact ⟨j, List.mem_singleton.1 h⟩
theorem made_steps {ls : List (List Int)} {r : Rul} (h : r ∈ madeRs ls) : 1 ≤ r.f2.length ∧ r.f2.length ≤ 2 ∧ ∀ s, s ∈ r.f2 → PatOk (madeTs ls.length) s.f1 := by
 obtain ⟨j, l, k, hj, rfl⟩ := made_rules h
 have h1 := stepsN_le k
 refine ⟨?_, ?_, fun s hs => ?_⟩
 · show 1 ≤ (stepsTo ls.length l k (stepsN k)).length
   rw [stepsTo_len]
   exact h1.1
 · show (stepsTo ls.length l k (stepsN k)).length ≤ 2
   rw [stepsTo_len]
   exact h1.2
 · obtain ⟨i, rfl⟩ := stepsTo_mem hs
   have hp := made_pat (made_names ls.length) (numbersOf l (stepsN k) i)
   have h2 : patS (madeTs ls.length) (stepOf ls.length l k i).f1 = none := hp.1
   have h3 : sizeP (stepOf ls.length l k i).f1 ≤ 60 := hp.2.1
   have h4 : deepP (stepOf ls.length l k i).f1 ≤ 12 := hp.2.2
   refine ⟨?_, by omega⟩
   unfold patS at h2
   rwa [if_pos (few_of h3 h4)] at h2
end Go.Proofs.YthdfmbmbjpmlaaaDoor.Rn
end
section
set_option linter.unusedVariables false
set_option linter.unusedSimpArgs false
namespace Go.Proofs.YthdfmbmbjpmlaaaDoor.Rn
open Go Go.RowKit Go.Proofs.YthdfmbmbjpmlaaaDoorW.PrintWords Go.Proofs.YthdfmbmbjpmlaaaDoorW.PrintLast Go.Proofs.YthdfmbmbjpmlaaaDoorW.PrintMore
def world5 (w : World) (g : Nat) (v0 v1 v2 v3 v4 : Value) : World := ((((w.setCell ⟨g, 0, none⟩ v0).setCell ⟨g, 1, none⟩ v1).setCell ⟨g, 2, none⟩ v2).setCell ⟨g, 3, none⟩ v3).setCell ⟨g, 4, none⟩ v4
theorem blk_put5 {W : World} {b : Nat} {t : TypeId} (c0 c1 c2 c3 c4 : Value) (v0 v1 v2 v3 v4 : Value) (h : W.heap[b]? = some (.cells #[c0, c1, c2, c3, c4] t (0, 0))) : (world5 W b v0 v1 v2 v3 v4).heap[b]? = some (.cells #[v0, v1, v2, v3, v4] t (0, 0)) :=
 blk_put (blk_put (blk_put (blk_put (blk_put h 0 v0 rfl) 1 v1 rfl) 2 v2 rfl) 3 v3 rfl) 4 v4 rfl
theorem fk_put5 {α : Type} {k : Kd α} {W : World} {ok : Nat → Prop} {x : α} {c : List Value} {b : Nat} (v0 v1 v2 v3 v4 : Value) (h : Kd.FK k W ok x c) (hne : ∀ q, ok q → q ≠ b) :
 Kd.FK k (world5 W b v0 v1 v2 v3 v4) ok x c := fk_put _ _ (fk_put _ _ (fk_put _ _ (fk_put _ _ (fk_put _ _ h hne) hne) hne) hne) hne
theorem below_put5 {W w : World} {b : Nat} (v0 v1 v2 v3 v4 : Value) (hb : W.heap.size ≤ b) (h : Below W.heap.size W w) : Below W.heap.size W (world5 w b v0 v1 v2 v3 v4) :=
 ((((h.setCell hb v0).setCell hb v1).setCell hb v2).setCell hb v3).setCell hb v4
def okStp (w2 : World) (bC bR gS : Nat) (q : Nat) : Prop := (q = bC ∨ q = bR ∨ w2.heap.size ≤ q) ∧ q ≠ gS
structure StepAt (w2 : World) (bC bR gS : Nat) (A : Option Addr) (n c : Nat) (p : Pt) (w : World) : Prop where
 h : ∃ (P2 : Option Addr) (r2 : Nat) (P3 : Option Addr) (r3 : Nat) (P4 : Option Addr) (r4 : Nat), w.heap[gS]? = some (.cells #[.slice A n c, .int .i64 p.f0, .slice P2 p.f1.length r2, .slice P3 p.f2.length r3, .slice P4 p.f3.length r4] 39 (0, 0)) ∧ Kd.FK kPt w (okStp w2 bC bR gS) p [.int .i64 p.f0, .slice P2 p.f1.length r2, .slice P3 p.f2.length r3, .slice P4 p.f3.length r4]
 b : Below w2.heap.size w2 w
 ge : w2.heap.size ≤ gS
theorem StepAt.put {w2 w : World} {bC bR gS : Nat} {A B : Option Addr} {n c m d : Nat} {p : Pt} (h : StepAt w2 bC bR gS A n c p w) : StepAt w2 bC bR gS B m d p (w.setCell ⟨gS, 0, none⟩ (.slice B m d)) := by
 obtain ⟨P2, r2, P3, r3, P4, r4, hb, hk⟩ := h.h
 exact ⟨⟨P2, r2, P3, r3, P4, r4, blk_put hb 0 _ rfl, fk_put _ _ hk (fun q hq => hq.2)⟩, h.b.setCell h.ge _, h.ge⟩
theorem StepAt.new {w2 w w5 : World} {bC bR gS : Nat} {p : Pt} {P2 P3 P4 : Option Addr} {r2 r3 r4 : Nat} {ok : Nat → Prop} (hw : w5 = world5 w gS (.slice none 0 0) (.int .i64 p.f0) (.slice P2 p.f1.length r2) (.slice P3 p.f2.length r3) (.slice P4 p.f3.length r4))
 (hz : w.heap[gS]? = some (.cells #[.slice none 0 0, .int .i64 0, .slice none 0 0, .slice none 0 0, .slice none 0 0] 39 (0, 0))) (hk : Kd.FK kPt w ok p [.int .i64 p.f0, .slice P2 p.f1.length r2, .slice P3 p.f2.length r3, .slice P4 p.f3.length r4])
 (hok : ∀ q, ok q → okStp w2 bC bR gS q) (hb : Below w2.heap.size w2 w) (hge : w2.heap.size ≤ gS) : StepAt w2 bC bR gS none 0 0 p w5 := by
 subst hw
 exact ⟨⟨P2, r2, P3, r3, P4, r4, blk_put5 _ _ _ _ _ _ _ _ _ _ hz, fk_put5 _ _ _ _ _ (Kd.FK_mono hk hok) (fun q hq => hq.2)⟩, below_put5 _ _ _ _ _ hge hb, hge⟩
theorem StepAt.fk {w2 w : World} {bC bR gS : Nat} {A : Option Addr} {c : Nat} {p : Pt} {cl : List ByteArray} {P2 P3 P4 : Option Addr} {r2 r3 r4 : Nat} (hb : w.heap[gS]? = some (.cells #[.slice A cl.length c, .int .i64 p.f0, .slice P2 p.f1.length r2, .slice P3 p.f2.length r3, .slice P4 p.f3.length r4] 39 (0, 0)))
 (hk : Kd.FK kPt w (okStp w2 bC bR gS) p [.int .i64 p.f0, .slice P2 p.f1.length r2, .slice P3 p.f2.length r3, .slice P4 p.f3.length r4]) (hc : cl.length ≤ c) (hF : Kd.F Kd.string w (okStp w2 bC bR gS) A cl.length cl) :
 Kd.FK k39 w (okStp w2 bC bR gS) ⟨cl, p⟩ [.slice A cl.length c, .int .i64 p.f0, .slice P2 p.f1.length r2, .slice P3 p.f2.length r3, .slice P4 p.f3.length r4] := fun W2 hW => by
 obtain ⟨A1, q1, A2, q2, A3, q3, he, h1, g1, h2, g2, h3, g3⟩ := k37_open (hk W2 hW)
 simp only [List.cons.injEq, Value.slice.injEq, and_true, true_and] at he
 obtain ⟨⟨rfl, rfl⟩, ⟨rfl, rfl⟩, rfl, rfl⟩ := he
 exact k39_mk W2 ⟨cl, p⟩ hc (hF W2 hW) h1 g1 h2 g2 h3 g3
theorem madeCalls_pos (n : Nat) : 0 < (madeCalls n).length := by unfold madeCalls; split <;> decide
theorem madeRets_pos (n : Nat) : 0 < (madeRets n).length := by unfold madeRets; split <;> decide
theorem txt_lt {w : World} {ok : Nat → Prop} {b : Nat} {l : List ByteArray} (h : Kd.F Kd.string w ok (some ⟨b, 0, none⟩) l.length l) (h0 : 0 < l.length) : b < w.heap.size := by
 obtain ⟨g, o, he, hlt, _⟩ := row_cells (Kd.F_now h) h0 (by decide)
 simp only [Option.some.injEq, Addr.mk.injEq] at he
 exact he.1 ▸ hlt
end Go.Proofs.YthdfmbmbjpmlaaaDoor.Rn
end
section
set_option linter.unusedVariables false
set_option linter.unusedSimpArgs false
namespace Go.Proofs.YthdfmbmbjpmlaaaDoor.Rn
open Go Go.RowKit Go.Proofs.YthdfmbmbjpmlaaaDoorW.PrintWords Go.Proofs.YthdfmbmbjpmlaaaDoorW.PrintLast Go.Proofs.YthdfmbmbjpmlaaaDoorW.PrintMore
theorem pat_k (j : Nat) (h : (j : Int) ≤ 8) : IntKind.i64.wrap (j : Int) = (j : Int) := by
 rw [IntKind.wrap_i64]
 omega
theorem pat_k1 (j : Nat) (h : (j : Int) ≤ 8) : IntKind.i64.wrap ((j : Int) + 1) = (j : Int) + 1 := by
 rw [IntKind.wrap_i64]
 omega
theorem pat_q (x : Int) : IntKind.i64.wrap x = wrap64 x := by
 rw [IntKind.wrap_i64]
 unfold wrap64
 first | rfl | omega
structure PatAt (w1 w : World) (okA : Nat → Prop) (v : Value) (xs : List Pt) : Prop where
 n : Kd.N kPt 37 w w1.heap.size (fun q => okA q ∨ w1.heap.size ≤ q) v xs
 b : Below w1.heap.size w1 w
theorem PatAt.later {w1 w w' : World} {okA : Nat → Prop} {v : Value} {xs : List Pt} (h : PatAt w1 w okA v xs) (hb : Below w.heap.size w w') : PatAt w1 w' okA v xs := ⟨Kd.N_below h.n hb, join_below h.b hb⟩
structure TxtIn (W : World) (okA : Nat → Prop) (A : Option Addr) (l : List ByteArray) (c : Nat) : Prop where
 f : Kd.F Kd.string W okA A l.length l
 c : l.length ≤ c
 p : 0 < l.length
def PatPost (okA : Nat → Prop) (p : Pt) (W : World) (e : Ending) (W' : World) : Prop := ∃ cs : List Value, e = .returned (.agg cs.toArray) ∧ Kd.FK kPt W' (fun q => okA q ∨ W.heap.size ≤ q) p cs ∧ Below W.heap.size W W'
theorem arr_mk (l : List Oper) : (⟨l⟩ : Array Oper) = l.toArray := rfl
def behind : Code → Nat → Option Code
 | .seq (.region id _ _) b, k => if id == k then some b else behind b k
 | .seq a b, k => match behind a k with
  | some o => some o
  | none => behind b k
 | .cond _ a b, k => match behind a k with
  | some o => some o
  | none => behind b k
 | .block _ c, k => behind c k
 | .loop c, k => behind c k
 | .scope c, k => behind c k
 | _, _ => none
def behindOf (f : Func) (k : Nat) : Code := ((f.body.bind fun c => behind c k)).getD .skip
end Go.Proofs.YthdfmbmbjpmlaaaDoor.Rn
end
section
set_option linter.unusedVariables false
set_option linter.unusedSimpArgs false
namespace Go.Proofs.YthdfmbmbjpmlaaaDoor.Rn
open Go Go.RowKit Go.Proofs.YthdfmbmbjpmlaaaDoorW.PrintWords Go.Proofs.YthdfmbmbjpmlaaaDoorW.PrintLast Go.Proofs.YthdfmbmbjpmlaaaDoorW.PrintMore
set_option maxHeartbeats 200000000 in
set_option maxRecDepth 100000 in
theorem pat_reg20 {Q : Exit → Act → World → Prop} {u0 u1 u2 u3 u4 u5 u6 u7 u8 u10 u12 u13 u14 u15 u16 u17 u18 u19 u20 u21 u22 u23 u24 u25 u26 u27 u28 u29 u30 u31 u32 u33 u34 u35 u36 u37 u38 u39 u40 u41 u42 u43 u44 u45 u46 u47 u48 u49 u50 u51 u52 u53 u54 u55 u56 u57 u58 u59 u60 u61 u62 u63 u64 u65 u66 u67 u68 u69 u70 u71 u72 u73 u74 u75 u76 u77 u78 u79 u80 u81 u82 u83 u84 u85 u86 u87 u88 u89 u90 u91 u92 u93 u94 u95 u96 u97 u98 u99 u100 u101 u102 u103 u104 u105 u106 u107 u108 u109 u110 u111 u112 u113 u114 u115 u116 u117 u118 u119 u120 u121 u122 u123 u124 u125 u126 u127 u128 u129 u130 u131 u132 u133 u134 u135 u136 u137 u138 u139 u140 u141 u142 u143 u144 u145 u146 u147 u148 u149 u150 u151 u152 u153 u154 u155 u156 u157 u158 u159 u160 u161 u162 u163 u164 u165 u166 u167 u168 u169 u170 u171 u172 u173 u174 u175 u176 u177 u178 u179 u180 u181 u182 u183 u184 u185 u186 u187 u188 u189 u190 u191 u192 u193 u194 u195 u196 u197 u198 u199 u200 u201 u202 u203 u204 u205 u206 u207 u208 u209 u210 u211 u212 u213 u214 : Value} {W w1 w2 : World} {okA : Nat → Prop} {xs : List Pt} {k : Int} {ins calls rets : List ByteArray} {A1 A2 A3 : Option Addr} {c1 c2 c3 : Nat} {d : Nat} {g2 j : Nat} (hA : ∀ q, okA q → q < W.heap.size) (hB0 : Below W.heap.size W w1) (hQ0 : PatAt w1 w2 okA (.slice (some ⟨g2, 0, none⟩) (j + 2) d) xs) (hj : xs.length = j + 2) (hj8 : j + 2 ≤ 8)
 (hP : ∀ (c : List PanicEntry) (a a' : Act) (w : World), a'.defers = a.defers → Q (.panic c) a' w → Q (.panic c) a w) (hQ : ∀ (v151 v152 v153 v154 v155 v156 v157 v158 v159 v160 v161 v162 v163 v164 v165 v166 v167 v168 v169 v170 : Value) (A9 : Option Addr) (n9 c9 : Nat) (w9 : World), n9 = (xs.take j ++ [(⟨5, [], [], [xs.getD j ptZ, xs.getD (j + 1) ptZ]⟩ : Pt)]).length → PatAt w1 w9 okA (.slice A9 (xs.take j ++ [(⟨5, [], [], [xs.getD j ptZ, xs.getD (j + 1) ptZ]⟩ : Pt)]).length c9) (xs.take j ++ [(⟨5, [], [], [xs.getD j ptZ, xs.getD (j + 1) ptZ]⟩ : Pt)]) → Q .normal ⟨#[u0, u1, u2, u3, u4, u5, u6, u7, u8, .slice A9 n9 c9, u10, .int .i64 ((j + 2 : Nat) : Int), u12, u13, u14, u15, u16, u17, u18, u19, u20, u21, u22, u23, u24, u25, u26, u27, u28, u29, u30, u31, u32, u33, u34, u35, u36, u37, u38, u39, u40, u41, u42, u43, u44, u45, u46, u47, u48, u49, u50, u51, u52, u53, u54, u55, u56, u57, u58, u59, u60, u61, u62, u63, u64, u65, u66, u67, u68, u69, u70, u71, u72, u73, u74, u75, u76, u77, u78, u79, u80, u81, u82, u83, u84, u85, u86, u87, u88, u89, u90, u91, u92, u93, u94, u95, u96, u97, u98, u99, u100, u101, u102, u103, u104, u105, u106, u107, u108, u109, u110, u111, u112, u113, u114, u115, u116, u117, u118, u119, u120, u121, u122, u123, u124, u125, u126, u127, u128, u129, u130, u131, u132, u133, u134, u135, u136, u137, u138, u139, u140, u141, u142, u143, u144, u145, u146, u147, u148, u149, u150, v151, v152, v153, v154, v155, v156, v157, v158, v159, v160, v161, v162, v163, v164, v165, v166, v167, v168, v169, v170, u171, u172, u173, u174, u175, u176, u177, u178, u179, u180, u181, u182, u183, u184, u185, u186, u187, u188, u189, u190, u191, u192, u193, u194, u195, u196, u197, u198, u199, u200, u201, u202, u203, u204, u205, u206, u207, u208, u209, u210, u211, u212, u213, u214], []⟩ w9) :
 Code.wp Tryd.prog (Code.region 20 (opsOf Tryd.f17 20) true) Q ⟨#[u0, u1, u2, u3, u4, u5, u6, u7, u8, .slice (some ⟨g2, 0, none⟩) (j + 2) d, u10, .int .i64 ((j + 2 : Nat) : Int), u12, u13, u14, u15, u16, u17, u18, u19, u20, u21, u22, u23, u24, u25, u26, u27, u28, u29, u30, u31, u32, u33, u34, u35, u36, u37, u38, u39, u40, u41, u42, u43, u44, u45, u46, u47, u48, u49, u50, u51, u52, u53, u54, u55, u56, u57, u58, u59, u60, u61, u62, u63, u64, u65, u66, u67, u68, u69, u70, u71, u72, u73, u74, u75, u76, u77, u78, u79, u80, u81, u82, u83, u84, u85, u86, u87, u88, u89, u90, u91, u92, u93, u94, u95, u96, u97, u98, u99, u100, u101, u102, u103, u104, u105, u106, u107, u108, u109, u110, u111, u112, u113, u114, u115, u116, u117, u118, u119, u120, u121, u122, u123, u124, u125, u126, u127, u128, u129, u130, u131, u132, u133, u134, u135, u136, u137, u138, u139, u140, u141, u142, u143, u144, u145, u146, u147, u148, u149, u150, u151, u152, u153, u154, u155, u156, u157, u158, u159, u160, u161, u162, u163, u164, u165, u166, u167, u168, u169, u170, u171, u172, u173, u174, u175, u176, u177, u178, u179, u180, u181, u182, u183, u184, u185, u186, u187, u188, u189, u190, u191, u192, u193, u194, u195, u196, u197, u198, u199, u200, u201, u202, u203, u204, u205, u206, u207, u208, u209, u210, u211, u212, u213, u214], []⟩ w2 := by
 have HA := Aside0.mk hA
 have HB0 := Aside0.mk hB0
 have HQf := Aside0.mk hQ
 have HPQ := Aside0.mk hP
 clear hP hQ hA hB0
 conv in (opsOf _ _) => whnf
 have HQ := Aside0.mk hQ0
 have HJ := Aside0.mk hj
 have HG2 : Aside0 (g2 < w2.heap.size) := ⟨Kd.N_lt hQ0.n g2 rfl⟩
 obtain ⟨csa, hcla, hFKa, hcca, _⟩ := Kd.N_elem HQ.out.n ptZ ((j : Nat) : Int) (by omega) (by omega)
 rw [Int.toNat_natCast] at hFKa hcca
 obtain ⟨pa, hpa⟩ : ∃ p, xs.getD (j) ptZ = p := ⟨_, rfl⟩
 rw [hpa] at hFKa
 obtain ⟨P1a, r1a, P2a, r2a, P3a, r3a, rfl, _, _, _, _, _, _⟩ := k37_open (Kd.FK_now hFKa)
 have HEa := Aside0.mk hFKa
 obtain ⟨csb, hclb, hFKb, hccb, _⟩ := Kd.N_elem HQ.out.n ptZ ((j + 1 : Nat) : Int) (by omega) (by omega)
 rw [Int.toNat_natCast] at hFKb hccb
 obtain ⟨pb, hpb⟩ : ∃ p, xs.getD (j + 1) ptZ = p := ⟨_, rfl⟩
 rw [hpb] at hFKb
 obtain ⟨P1b, r1b, P2b, r2b, P3b, r3b, rfl, _, _, _, _, _, _⟩ := k37_open (Kd.FK_now hFKb)
 have HEb := Aside0.mk hFKb
 have HPA := Aside0.mk (And.intro hpa hpb)
 have HCa := Aside0.mk hcca
 have HCb := Aside0.mk hccb
 clear hcca hcla hFKa hpa hccb hclb hFKb hpb hj hQ0
 obtain ⟨wd, hwd⟩ : ∃ x, w2.drew = x := ⟨_, rfl⟩
 have HDR : Aside0 (Below w2.heap.size w2 wd) := ⟨hwd ▸ below_drew1 (Below.refl _ _)⟩
 have HLW := HDR
 have HQ := Aside0.mk (HQ.out.later HDR.out)
 have hq1 := pat_q (k.tdiv 11)
 have hq3 := pat_q (k.tdiv 13)
 refine Ord.region_L (S := fun w' => ∃ p : Later w2, w' = p.wx) (L := 20) (by as_aux_lemma => kernel_rfl) ?_
 rw [hwd]
 clear hwd
 have hj9 : (j : Int) ≤ 8 := by omega
 clear hq1 hq3
 have hjk := pat_k j hj9
 have hjk1 := pat_k1 j hj9
 have hjk2 : IntKind.i64.wrap ((j : Int) + 2 - 1) = ((j + 1 : Nat) : Int) := (congrArg IntKind.i64.wrap (by omega)).trans (pat_k1 j hj9)
 have hjl : (j : Int) < (j : Int) + 2 := by omega
 have hjl2 : (0 : Int) ≤ (j : Int) + 1 := by omega
 have hjl1 : (j : Int) + 1 < (j : Int) + 2 := by omega
 have hjd : (j : Int) ≤ (d : Int) := by have := (Kd.N_reads' HQ.out.n).2.1; omega
 have ya0 : ∀ p : Later w2, p.wx.cell? ⟨g2, j * 4 + 0, none⟩ = some (.int .i64 pa.f0) := fun p => cell_after p.below (HCa.out 0 _ rfl)
 have ya1 : ∀ p : Later w2, p.wx.cell? ⟨g2, j * 4 + 1, none⟩ = some (.slice P1a pa.f1.length r1a) := fun p => cell_after p.below (HCa.out 1 _ rfl)
 have ya2 : ∀ p : Later w2, p.wx.cell? ⟨g2, j * 4 + 2, none⟩ = some (.slice P2a pa.f2.length r2a) := fun p => cell_after p.below (HCa.out 2 _ rfl)
 have ya3 : ∀ p : Later w2, p.wx.cell? ⟨g2, j * 4 + 3, none⟩ = some (.slice P3a pa.f3.length r3a) := fun p => cell_after p.below (HCa.out 3 _ rfl)
 simp only [Nat.add_zero] at ya0
 have yb0 : ∀ p : Later w2, p.wx.cell? ⟨g2, (j + 1) * 4 + 0, none⟩ = some (.int .i64 pb.f0) := fun p => cell_after p.below (HCb.out 0 _ rfl)
 have yb1 : ∀ p : Later w2, p.wx.cell? ⟨g2, (j + 1) * 4 + 1, none⟩ = some (.slice P1b pb.f1.length r1b) := fun p => cell_after p.below (HCb.out 1 _ rfl)
 have yb2 : ∀ p : Later w2, p.wx.cell? ⟨g2, (j + 1) * 4 + 2, none⟩ = some (.slice P2b pb.f2.length r2b) := fun p => cell_after p.below (HCb.out 2 _ rfl)
 have yb3 : ∀ p : Later w2, p.wx.cell? ⟨g2, (j + 1) * 4 + 3, none⟩ = some (.slice P3b pb.f3.length r3b) := fun p => cell_after p.below (HCb.out 3 _ rfl)
 simp only [Nat.add_zero] at yb0
 ((refine Ord.takeL (i := 0) (by rfl) (by as_aux_lemma => kernel_rfl) ?_ ?_ ?_); (focus first | exact fun _ _ _ _ h => h | exact fun _ _ _ _ h => HPQ.out _ _ _ _ (by rfl) h); (focus exact ⟨⟨_, HLW.out⟩, rfl⟩); intro K hK; go_simp; (with_reducible refine hK _ ?_); clear hK K)
 ((refine Ord.takeL (i := 1) (by rfl) (by as_aux_lemma => kernel_rfl) ?_ ?_ ?_); (focus first | exact fun _ _ _ _ h => h | exact fun _ _ _ _ h => HPQ.out _ _ _ _ (by rfl) h); (focus exact ⟨⟨_, HLW.out⟩, rfl⟩); intro K hK; go_simp; (with_reducible refine hK _ ?_); clear hK K)
 ((refine Ord.takeL (i := 2) (by rfl) (by as_aux_lemma => kernel_rfl) ?_ ?_ ?_); (focus first | exact fun _ _ _ _ h => h | exact fun _ _ _ _ h => HPQ.out _ _ _ _ (by rfl) h); (focus exact ⟨⟨_, HLW.out⟩, rfl⟩); intro K hK; go_simp; (with_reducible refine hK _ ?_); clear hK K)
 ((refine Ord.takeL (i := 3) (by rfl) (by as_aux_lemma => kernel_rfl) ?_ ?_ ?_); (focus first | exact fun _ _ _ _ h => h | exact fun _ _ _ _ h => HPQ.out _ _ _ _ (by rfl) h); (focus exact ⟨⟨_, HLW.out⟩, rfl⟩); intro K hK; go_simp; (with_reducible refine hK _ ?_); clear hK K)
 ((refine Ord.takeL (i := 4) (by rfl) (by as_aux_lemma => kernel_rfl) ?_ ?_ ?_); (focus first | exact fun _ _ _ _ h => h | exact fun _ _ _ _ h => HPQ.out _ _ _ _ (by rfl) h); (focus exact ⟨⟨_, HLW.out⟩, rfl⟩); intro K hK; go_simp; (with_reducible refine hK _ ?_); clear hK K)
 ((refine Ord.takeL (i := 5) (by rfl) (by as_aux_lemma => kernel_rfl) ?_ ?_ ?_); (focus first | exact fun _ _ _ _ h => h | exact fun _ _ _ _ h => HPQ.out _ _ _ _ (by rfl) h); (focus exact ⟨⟨_, HLW.out⟩, rfl⟩); intro K hK; go_simp; (with_reducible refine hK _ ?_); clear hK K)
 ((refine Ord.takeL (i := 6) (by rfl) (by as_aux_lemma => kernel_rfl) ?_ ?_ ?_); (focus first | exact fun _ _ _ _ h => h | exact fun _ _ _ _ h => HPQ.out _ _ _ _ (by rfl) h); (focus exact ⟨⟨_, HLW.out⟩, rfl⟩); intro K hK; go_simp; (with_reducible refine hK _ ?_); clear hK K)
 ((refine Ord.takeL (i := 7) (by rfl) (by as_aux_lemma => kernel_rfl) ?_ ?_ ?_); (focus first | exact fun _ _ _ _ h => h | exact fun _ _ _ _ h => HPQ.out _ _ _ _ (by rfl) h); (focus exact ⟨⟨_, HLW.out⟩, rfl⟩); intro K hK; go_simp; (with_reducible refine hK _ ?_); clear hK K)
 ((refine Ord.takeL (i := 8) (by rfl) (by as_aux_lemma => kernel_rfl) ?_ ?_ ?_); (focus first | exact fun _ _ _ _ h => h | exact fun _ _ _ _ h => HPQ.out _ _ _ _ (by rfl) h); (focus exact ⟨⟨_, HLW.out⟩, rfl⟩); intro K hK; go_simp; (with_reducible refine hK _ ?_); clear hK K)
 ((refine Ord.takeL (i := 9) (by rfl) (by as_aux_lemma => kernel_rfl) ?_ ?_ ?_); (focus first | exact fun _ _ _ _ h => h | exact fun _ _ _ _ h => HPQ.out _ _ _ _ (by rfl) h); (focus exact ⟨⟨_, HLW.out⟩, rfl⟩); intro K hK; go_simp; (with_reducible refine hK _ ?_); clear hK K)
 ((refine Ord.takeL (i := 10) (by rfl) (by as_aux_lemma => kernel_rfl) ?_ ?_ ?_); (focus first | exact fun _ _ _ _ h => h | exact fun _ _ _ _ h => HPQ.out _ _ _ _ (by rfl) h); (focus exact ⟨⟨_, HLW.out⟩, rfl⟩); intro K hK; go_simp; (with_reducible refine hK _ ?_); clear hK K)
 ((refine Ord.takeL (i := 11) (by rfl) (by as_aux_lemma => kernel_rfl) ?_ ?_ ?_); (focus first | exact fun _ _ _ _ h => h | exact fun _ _ _ _ h => HPQ.out _ _ _ _ (by rfl) h); (focus exact ⟨⟨_, HLW.out⟩, rfl⟩); intro K hK; go_simp; (with_reducible refine hK _ ?_); clear hK K)
 ((refine Ord.takeL (i := 12) (by rfl) (by as_aux_lemma => kernel_rfl) ?_ ?_ ?_); (focus first | exact fun _ _ _ _ h => h | exact fun _ _ _ _ h => HPQ.out _ _ _ _ (by rfl) h); (focus exact ⟨⟨_, HLW.out⟩, rfl⟩); intro K hK; go_simp; (with_reducible refine hK _ ?_); clear hK K)
 ((refine Ord.takeL (i := 13) (by rfl) (by as_aux_lemma => kernel_rfl) ?_ ?_ ?_); (focus first | exact fun _ _ _ _ h => h | exact fun _ _ _ _ h => HPQ.out _ _ _ _ (by rfl) h); (focus exact ⟨⟨_, HLW.out⟩, rfl⟩); intro K hK; go_simp; (with_reducible refine hK _ ?_); clear hK K)
 ((refine Ord.takeL (i := 14) (by rfl) (by as_aux_lemma => kernel_rfl) ?_ ?_ ?_); (focus first | exact fun _ _ _ _ h => h | exact fun _ _ _ _ h => HPQ.out _ _ _ _ (by rfl) h); (focus exact ⟨⟨_, HLW.out⟩, rfl⟩); intro K hK; go_simp; (with_reducible refine hK _ ?_); clear hK K)
 ((refine Ord.takeL (i := 15) (by rfl) (by as_aux_lemma => kernel_rfl) ?_ ?_ ?_); (focus first | exact fun _ _ _ _ h => h | exact fun _ _ _ _ h => HPQ.out _ _ _ _ (by rfl) h); (focus exact ⟨⟨_, HLW.out⟩, rfl⟩); intro K hK; go_simp; (with_reducible refine hK _ ?_); clear hK K)
 clear ya0 ya1 ya2 ya3 yb0 yb1 yb2 yb3
 clear hjk hjk1 hjk2 hjl hjl1 hjl2 hjd
 refine Ord.allL1 (i := 16) (by as_aux_lemma => kernel_rfl) (by rfl) (fun K hK => ?_)
 go_simp
 obtain ⟨wB, hv⟩ : ∃ x, wd.alloc (.cells #[.int .i64 pa.f0, .slice P1a pa.f1.length r1a, .slice P2a pa.f2.length r2a, .slice P3a pa.f3.length r3a, .int .i64 pb.f0, .slice P1b pb.f1.length r1b, .slice P2b pb.f2.length r2b, .slice P3b pb.f3.length r3b] 37) = x := ⟨_, rfl⟩
 rw [hv]
 obtain ⟨gB, hg⟩ : ∃ x, wd.heap.size = x := ⟨_, rfl⟩
 rw [hg]
 have BKB : Aside0 (wB.heap[gB]? = some (.cells #[.int .i64 pa.f0, .slice P1a pa.f1.length r1a, .slice P2a pa.f2.length r2a, .slice P3a pa.f3.length r3a, .int .i64 pb.f0, .slice P1b pb.f1.length r1b, .slice P2b pb.f2.length r2b, .slice P3b pb.f3.length r3b] 37 (0, 0))) := ⟨by rw [← hv, ← hg]; exact blk_new _ _⟩
 have STB : Aside0 (Below wd.heap.size wd wB) := ⟨hv ▸ below1 _ _⟩
 have GSB : Aside0 (wd.heap.size = gB) := ⟨hg⟩
 have HLW := Aside0.mk (join_below HLW.out STB.out)
 have HQB := HQ
 have HQ := Aside0.mk (HQ.out.later STB.out)
 clear hv hg
 refine hK _ _ ⟨⟨_, HLW.out⟩, rfl⟩ ?_
 clear hK K
 ((refine Ord.takeL (i := 17) (by rfl) (by as_aux_lemma => kernel_rfl) ?_ ?_ ?_); (focus first | exact fun _ _ _ _ h => h | exact fun _ _ _ _ h => HPQ.out _ _ _ _ (by rfl) h); (focus exact ⟨⟨_, HLW.out⟩, rfl⟩); intro K hK; go_simp; (with_reducible refine hK _ ?_); clear hK K)
 refine Ord.allL1 (i := 18) (by as_aux_lemma => kernel_rfl) (by rfl) (fun K hK => ?_)
 go_simp
 obtain ⟨wP, hv⟩ : ∃ x, wB.alloc (.cells #[.int .i64 5, .slice none 0 0, .slice none 0 0, .slice (some ⟨gB, 0, none⟩) 2 2] 37) = x := ⟨_, rfl⟩
 rw [hv]
 obtain ⟨gP, hg⟩ : ∃ x, wB.heap.size = x := ⟨_, rfl⟩
 rw [hg]
 have BKP : Aside0 (wP.heap[gP]? = some (.cells #[.int .i64 5, .slice none 0 0, .slice none 0 0, .slice (some ⟨gB, 0, none⟩) 2 2] 37 (0, 0))) := ⟨by rw [← hv, ← hg]; exact blk_new _ _⟩
 have STP : Aside0 (Below wB.heap.size wB wP) := ⟨hv ▸ below1 _ _⟩
 have GSP : Aside0 (wB.heap.size = gP) := ⟨hg⟩
 have HLW := Aside0.mk (join_below HLW.out STP.out)
 have HQP := HQ
 have HQ := Aside0.mk (HQ.out.later STP.out)
 clear hv hg
 refine hK _ _ ⟨⟨_, HLW.out⟩, rfl⟩ ?_
 clear hK K
 have HTW : Aside0 (Kd.F kPt wP (fun q => q = gB ∨ ((okA q ∨ w1.heap.size ≤ q) ∧ q ≠ g2)) (some ⟨gB, 0, none⟩) 2 [pa, pb]) := ⟨f_two (blk_below BKB.out STP.out) rfl (Kd.FK_below HEa.out HLW.out) (Kd.FK_below HEb.out HLW.out) (fun q h => h) (fun q h => h)⟩
 have HFP : Aside0 (Kd.FK kPt wP (fun q => q = gB ∨ ((okA q ∨ w1.heap.size ≤ q) ∧ q ≠ g2)) ⟨5, [], [], [pa, pb]⟩ [.int .i64 5, .slice none 0 0, .slice none 0 0, .slice (some ⟨gB, 0, none⟩) 2 2]) := ⟨k37_mkF wP _ ⟨5, [], [], [pa, pb]⟩ (show 0 ≤ 0 from Nat.le_refl _) (Kd.F_nil _ _ _) (show 0 ≤ 0 from Nat.le_refl _) (Kd.F_nil _ _ _) (show 2 ≤ 2 from Nat.le_refl _) HTW.out⟩
 have HFX := Aside0.mk (f_one BKP.out rfl HFP.out)
 have HFT : Aside0 (Kd.F kPt wP (fun q => okA q ∨ w1.heap.size ≤ q) (some ⟨g2, 0, none⟩) j (xs.take j)) := ⟨by have h := Kd.F_take (m := j) (HJ.out.symm ▸ Kd.N_F HQ.out.n) (by have := HJ.out; omega); rwa [List.length_take, Nat.min_eq_left (by have := HJ.out; omega)] at h⟩
 refine Ord.allL1 (i := 19) (by as_aux_lemma => kernel_rfl) (by rfl) (fun K hK => ?_)
 refine n_append_full kPt (w0 := w1) w1.heap.size (by rfl) (.tmp 156) (.tmp 169) 35 37 (.agg #[.int .i64 0, .slice none 0 0, .slice none 0 0, .slice none 0 0]) 80 rfl Tryd.underlying35 (by as_aux_lemma => kernel_rfl) rfl (by decide) (by decide) (xs.take j) [⟨5, [], [], [pa, pb]⟩] ⟨g2, 0, none⟩ ⟨gP, 0, none⟩ j 1 1 (fun q => okA q ∨ w1.heap.size ≤ q) (fun q => okA q ∨ w1.heap.size ≤ q) (fun q => q = gP ∨ (q = gB ∨ ((okA q ∨ w1.heap.size ≤ q) ∧ q ≠ g2))) rfl rfl HFT.out HFX.out (by decide) (fun q h => h) (fun q hq => by have h1 := HQ.out.b.size; have h2 := HDR.out.size; have h3 := GSB.out; have h4 := GSP.out; have h5 := STB.out.size; have h6 := HQB.out.b.size; have h7 := HQP.out.b.size; rcases hq with hq | hq | hq; (· exact Or.inr (by omega)); (· exact Or.inr (by omega)); (· exact hq.1)) (fun q hq => Or.inr (Nat.le_trans HQ.out.b.size hq)) HQ.out.b HQ.out.b.size (by omega) ?_
 intro v9 w9 hN hB hgr hat
 obtain ⟨A9, c9, hv9⟩ := Kd.N_slice hN
 subst hv9
 have HX := Aside0.mk (PatAt.mk hN hB)
 have HLW := Aside0.mk (join_below HLW.out (Below.grown (Below.refl _ _) hgr (Nat.le_refl _) (fun k hk => by cases hk)))
 clear hN hB hgr hat
 refine hK _ _ ⟨⟨_, HLW.out⟩, rfl⟩ ?_
 clear hK K
 refine Ord.lastL (by as_aux_lemma => kernel_rfl) (by rfl) (by decide) (fun K hK => ?_)
 go_simp
 refine hK _ _ ?_
 clear hK K
 obtain ⟨rfl, rfl⟩ := HPA.out
 refine wpAnyH_done (by as_aux_lemma => kernel_rfl) ?_ _
 refine HQf.out _ _ _ _ _ _ _ _ _ _ _ _ _ _ _ _ _ _ _ _ A9 _ c9 w9 ?_ HX.out
 first | rfl | (rw [List.length_append]; rfl) | simp
set_option maxHeartbeats 200000000 in
set_option maxRecDepth 100000 in
theorem pat_reg22 {Q : Exit → Act → World → Prop} {u0 u1 u2 u3 u4 u5 u6 u7 u8 u10 u12 u13 u14 u15 u16 u17 u18 u19 u20 u21 u22 u23 u24 u25 u26 u27 u28 u29 u30 u31 u32 u33 u34 u35 u36 u37 u38 u39 u40 u41 u42 u43 u44 u45 u46 u47 u48 u49 u50 u51 u52 u53 u54 u55 u56 u57 u58 u59 u60 u61 u62 u63 u64 u65 u66 u67 u68 u69 u70 u71 u72 u73 u74 u75 u76 u77 u78 u79 u80 u81 u82 u83 u84 u85 u86 u87 u88 u89 u90 u91 u92 u93 u94 u95 u96 u97 u98 u99 u100 u101 u102 u103 u104 u105 u106 u107 u108 u109 u110 u111 u112 u113 u114 u115 u116 u117 u118 u119 u120 u121 u122 u123 u124 u125 u126 u127 u128 u129 u130 u131 u132 u133 u134 u135 u136 u137 u138 u139 u140 u141 u142 u143 u144 u145 u146 u147 u148 u149 u150 u151 u152 u153 u154 u155 u156 u157 u158 u159 u160 u161 u162 u163 u164 u165 u166 u167 u168 u169 u170 u171 u172 u173 u174 u175 u176 u177 u178 u179 u180 u181 u182 u183 u184 u185 u186 u187 u188 u189 u190 u191 u192 u193 u194 u195 u196 u197 u198 u199 u200 u201 u202 u203 u204 u205 u206 u207 u208 u209 u210 u211 u212 u213 u214 : Value} {W w1 w2 : World} {okA : Nat → Prop} {xs : List Pt} {k : Int} {ins calls rets : List ByteArray} {A1 A2 A3 : Option Addr} {c1 c2 c3 : Nat} {d : Nat} {g2 j : Nat} (hA : ∀ q, okA q → q < W.heap.size) (hB0 : Below W.heap.size W w1) (hQ0 : PatAt w1 w2 okA (.slice (some ⟨g2, 0, none⟩) (j + 2) d) xs) (hj : xs.length = j + 2) (hj8 : j + 2 ≤ 8)
 (hP : ∀ (c : List PanicEntry) (a a' : Act) (w : World), a'.defers = a.defers → Q (.panic c) a' w → Q (.panic c) a w) (hQ : ∀ (v174 v175 v176 v177 v178 v179 v180 v181 v182 v183 v184 v185 v186 v187 v188 v189 v190 v191 v192 v193 : Value) (A9 : Option Addr) (n9 c9 : Nat) (w9 : World), n9 = (xs.take j ++ [(⟨6, [], [], [xs.getD j ptZ, xs.getD (j + 1) ptZ]⟩ : Pt)]).length → PatAt w1 w9 okA (.slice A9 (xs.take j ++ [(⟨6, [], [], [xs.getD j ptZ, xs.getD (j + 1) ptZ]⟩ : Pt)]).length c9) (xs.take j ++ [(⟨6, [], [], [xs.getD j ptZ, xs.getD (j + 1) ptZ]⟩ : Pt)]) → Q .normal ⟨#[u0, u1, u2, u3, u4, u5, u6, u7, u8, .slice A9 n9 c9, u10, .int .i64 ((j + 2 : Nat) : Int), u12, u13, u14, u15, u16, u17, u18, u19, u20, u21, u22, u23, u24, u25, u26, u27, u28, u29, u30, u31, u32, u33, u34, u35, u36, u37, u38, u39, u40, u41, u42, u43, u44, u45, u46, u47, u48, u49, u50, u51, u52, u53, u54, u55, u56, u57, u58, u59, u60, u61, u62, u63, u64, u65, u66, u67, u68, u69, u70, u71, u72, u73, u74, u75, u76, u77, u78, u79, u80, u81, u82, u83, u84, u85, u86, u87, u88, u89, u90, u91, u92, u93, u94, u95, u96, u97, u98, u99, u100, u101, u102, u103, u104, u105, u106, u107, u108, u109, u110, u111, u112, u113, u114, u115, u116, u117, u118, u119, u120, u121, u122, u123, u124, u125, u126, u127, u128, u129, u130, u131, u132, u133, u134, u135, u136, u137, u138, u139, u140, u141, u142, u143, u144, u145, u146, u147, u148, u149, u150, u151, u152, u153, u154, u155, u156, u157, u158, u159, u160, u161, u162, u163, u164, u165, u166, u167, u168, u169, u170, u171, u172, u173, v174, v175, v176, v177, v178, v179, v180, v181, v182, v183, v184, v185, v186, v187, v188, v189, v190, v191, v192, v193, u194, u195, u196, u197, u198, u199, u200, u201, u202, u203, u204, u205, u206, u207, u208, u209, u210, u211, u212, u213, u214], []⟩ w9) :
 Code.wp Tryd.prog (Code.region 22 (opsOf Tryd.f17 22) true) Q ⟨#[u0, u1, u2, u3, u4, u5, u6, u7, u8, .slice (some ⟨g2, 0, none⟩) (j + 2) d, u10, .int .i64 ((j + 2 : Nat) : Int), u12, u13, u14, u15, u16, u17, u18, u19, u20, u21, u22, u23, u24, u25, u26, u27, u28, u29, u30, u31, u32, u33, u34, u35, u36, u37, u38, u39, u40, u41, u42, u43, u44, u45, u46, u47, u48, u49, u50, u51, u52, u53, u54, u55, u56, u57, u58, u59, u60, u61, u62, u63, u64, u65, u66, u67, u68, u69, u70, u71, u72, u73, u74, u75, u76, u77, u78, u79, u80, u81, u82, u83, u84, u85, u86, u87, u88, u89, u90, u91, u92, u93, u94, u95, u96, u97, u98, u99, u100, u101, u102, u103, u104, u105, u106, u107, u108, u109, u110, u111, u112, u113, u114, u115, u116, u117, u118, u119, u120, u121, u122, u123, u124, u125, u126, u127, u128, u129, u130, u131, u132, u133, u134, u135, u136, u137, u138, u139, u140, u141, u142, u143, u144, u145, u146, u147, u148, u149, u150, u151, u152, u153, u154, u155, u156, u157, u158, u159, u160, u161, u162, u163, u164, u165, u166, u167, u168, u169, u170, u171, u172, u173, u174, u175, u176, u177, u178, u179, u180, u181, u182, u183, u184, u185, u186, u187, u188, u189, u190, u191, u192, u193, u194, u195, u196, u197, u198, u199, u200, u201, u202, u203, u204, u205, u206, u207, u208, u209, u210, u211, u212, u213, u214], []⟩ w2 := by
 have HA := Aside0.mk hA
 have HB0 := Aside0.mk hB0
 have HQf := Aside0.mk hQ
 have HPQ := Aside0.mk hP
 clear hP hQ hA hB0
 conv in (opsOf _ _) => whnf
 have HQ := Aside0.mk hQ0
 have HJ := Aside0.mk hj
 have HG2 : Aside0 (g2 < w2.heap.size) := ⟨Kd.N_lt hQ0.n g2 rfl⟩
 obtain ⟨csa, hcla, hFKa, hcca, _⟩ := Kd.N_elem HQ.out.n ptZ ((j : Nat) : Int) (by omega) (by omega)
 rw [Int.toNat_natCast] at hFKa hcca
 obtain ⟨pa, hpa⟩ : ∃ p, xs.getD (j) ptZ = p := ⟨_, rfl⟩
 rw [hpa] at hFKa
 obtain ⟨P1a, r1a, P2a, r2a, P3a, r3a, rfl, _, _, _, _, _, _⟩ := k37_open (Kd.FK_now hFKa)
 have HEa := Aside0.mk hFKa
 obtain ⟨csb, hclb, hFKb, hccb, _⟩ := Kd.N_elem HQ.out.n ptZ ((j + 1 : Nat) : Int) (by omega) (by omega)
 rw [Int.toNat_natCast] at hFKb hccb
 obtain ⟨pb, hpb⟩ : ∃ p, xs.getD (j + 1) ptZ = p := ⟨_, rfl⟩
 rw [hpb] at hFKb
 obtain ⟨P1b, r1b, P2b, r2b, P3b, r3b, rfl, _, _, _, _, _, _⟩ := k37_open (Kd.FK_now hFKb)
 have HEb := Aside0.mk hFKb
 have HPA := Aside0.mk (And.intro hpa hpb)
 have HCa := Aside0.mk hcca
 have HCb := Aside0.mk hccb
 clear hcca hcla hFKa hpa hccb hclb hFKb hpb hj hQ0
 obtain ⟨wd, hwd⟩ : ∃ x, w2.drew = x := ⟨_, rfl⟩
 have HDR : Aside0 (Below w2.heap.size w2 wd) := ⟨hwd ▸ below_drew1 (Below.refl _ _)⟩
 have HLW := HDR
 have HQ := Aside0.mk (HQ.out.later HDR.out)
 have hq1 := pat_q (k.tdiv 11)
 have hq3 := pat_q (k.tdiv 13)
 refine Ord.region_L (S := fun w' => ∃ p : Later w2, w' = p.wx) (L := 20) (by as_aux_lemma => kernel_rfl) ?_
 rw [hwd]
 clear hwd
 have hj9 : (j : Int) ≤ 8 := by omega
 clear hq1 hq3
 have hjk := pat_k j hj9
 have hjk1 := pat_k1 j hj9
 have hjk2 : IntKind.i64.wrap ((j : Int) + 2 - 1) = ((j + 1 : Nat) : Int) := (congrArg IntKind.i64.wrap (by omega)).trans (pat_k1 j hj9)
 have hjl : (j : Int) < (j : Int) + 2 := by omega
 have hjl2 : (0 : Int) ≤ (j : Int) + 1 := by omega
 have hjl1 : (j : Int) + 1 < (j : Int) + 2 := by omega
 have hjd : (j : Int) ≤ (d : Int) := by have := (Kd.N_reads' HQ.out.n).2.1; omega
 have ya0 : ∀ p : Later w2, p.wx.cell? ⟨g2, j * 4 + 0, none⟩ = some (.int .i64 pa.f0) := fun p => cell_after p.below (HCa.out 0 _ rfl)
 have ya1 : ∀ p : Later w2, p.wx.cell? ⟨g2, j * 4 + 1, none⟩ = some (.slice P1a pa.f1.length r1a) := fun p => cell_after p.below (HCa.out 1 _ rfl)
 have ya2 : ∀ p : Later w2, p.wx.cell? ⟨g2, j * 4 + 2, none⟩ = some (.slice P2a pa.f2.length r2a) := fun p => cell_after p.below (HCa.out 2 _ rfl)
 have ya3 : ∀ p : Later w2, p.wx.cell? ⟨g2, j * 4 + 3, none⟩ = some (.slice P3a pa.f3.length r3a) := fun p => cell_after p.below (HCa.out 3 _ rfl)
 simp only [Nat.add_zero] at ya0
 have yb0 : ∀ p : Later w2, p.wx.cell? ⟨g2, (j + 1) * 4 + 0, none⟩ = some (.int .i64 pb.f0) := fun p => cell_after p.below (HCb.out 0 _ rfl)
 have yb1 : ∀ p : Later w2, p.wx.cell? ⟨g2, (j + 1) * 4 + 1, none⟩ = some (.slice P1b pb.f1.length r1b) := fun p => cell_after p.below (HCb.out 1 _ rfl)
 have yb2 : ∀ p : Later w2, p.wx.cell? ⟨g2, (j + 1) * 4 + 2, none⟩ = some (.slice P2b pb.f2.length r2b) := fun p => cell_after p.below (HCb.out 2 _ rfl)
 have yb3 : ∀ p : Later w2, p.wx.cell? ⟨g2, (j + 1) * 4 + 3, none⟩ = some (.slice P3b pb.f3.length r3b) := fun p => cell_after p.below (HCb.out 3 _ rfl)
 simp only [Nat.add_zero] at yb0
 ((refine Ord.takeL (i := 0) (by rfl) (by as_aux_lemma => kernel_rfl) ?_ ?_ ?_); (focus first | exact fun _ _ _ _ h => h | exact fun _ _ _ _ h => HPQ.out _ _ _ _ (by rfl) h); (focus exact ⟨⟨_, HLW.out⟩, rfl⟩); intro K hK; go_simp; (with_reducible refine hK _ ?_); clear hK K)
 ((refine Ord.takeL (i := 1) (by rfl) (by as_aux_lemma => kernel_rfl) ?_ ?_ ?_); (focus first | exact fun _ _ _ _ h => h | exact fun _ _ _ _ h => HPQ.out _ _ _ _ (by rfl) h); (focus exact ⟨⟨_, HLW.out⟩, rfl⟩); intro K hK; go_simp; (with_reducible refine hK _ ?_); clear hK K)
 ((refine Ord.takeL (i := 2) (by rfl) (by as_aux_lemma => kernel_rfl) ?_ ?_ ?_); (focus first | exact fun _ _ _ _ h => h | exact fun _ _ _ _ h => HPQ.out _ _ _ _ (by rfl) h); (focus exact ⟨⟨_, HLW.out⟩, rfl⟩); intro K hK; go_simp; (with_reducible refine hK _ ?_); clear hK K)
 ((refine Ord.takeL (i := 3) (by rfl) (by as_aux_lemma => kernel_rfl) ?_ ?_ ?_); (focus first | exact fun _ _ _ _ h => h | exact fun _ _ _ _ h => HPQ.out _ _ _ _ (by rfl) h); (focus exact ⟨⟨_, HLW.out⟩, rfl⟩); intro K hK; go_simp; (with_reducible refine hK _ ?_); clear hK K)
 ((refine Ord.takeL (i := 4) (by rfl) (by as_aux_lemma => kernel_rfl) ?_ ?_ ?_); (focus first | exact fun _ _ _ _ h => h | exact fun _ _ _ _ h => HPQ.out _ _ _ _ (by rfl) h); (focus exact ⟨⟨_, HLW.out⟩, rfl⟩); intro K hK; go_simp; (with_reducible refine hK _ ?_); clear hK K)
 ((refine Ord.takeL (i := 5) (by rfl) (by as_aux_lemma => kernel_rfl) ?_ ?_ ?_); (focus first | exact fun _ _ _ _ h => h | exact fun _ _ _ _ h => HPQ.out _ _ _ _ (by rfl) h); (focus exact ⟨⟨_, HLW.out⟩, rfl⟩); intro K hK; go_simp; (with_reducible refine hK _ ?_); clear hK K)
 ((refine Ord.takeL (i := 6) (by rfl) (by as_aux_lemma => kernel_rfl) ?_ ?_ ?_); (focus first | exact fun _ _ _ _ h => h | exact fun _ _ _ _ h => HPQ.out _ _ _ _ (by rfl) h); (focus exact ⟨⟨_, HLW.out⟩, rfl⟩); intro K hK; go_simp; (with_reducible refine hK _ ?_); clear hK K)
 ((refine Ord.takeL (i := 7) (by rfl) (by as_aux_lemma => kernel_rfl) ?_ ?_ ?_); (focus first | exact fun _ _ _ _ h => h | exact fun _ _ _ _ h => HPQ.out _ _ _ _ (by rfl) h); (focus exact ⟨⟨_, HLW.out⟩, rfl⟩); intro K hK; go_simp; (with_reducible refine hK _ ?_); clear hK K)
 ((refine Ord.takeL (i := 8) (by rfl) (by as_aux_lemma => kernel_rfl) ?_ ?_ ?_); (focus first | exact fun _ _ _ _ h => h | exact fun _ _ _ _ h => HPQ.out _ _ _ _ (by rfl) h); (focus exact ⟨⟨_, HLW.out⟩, rfl⟩); intro K hK; go_simp; (with_reducible refine hK _ ?_); clear hK K)
 ((refine Ord.takeL (i := 9) (by rfl) (by as_aux_lemma => kernel_rfl) ?_ ?_ ?_); (focus first | exact fun _ _ _ _ h => h | exact fun _ _ _ _ h => HPQ.out _ _ _ _ (by rfl) h); (focus exact ⟨⟨_, HLW.out⟩, rfl⟩); intro K hK; go_simp; (with_reducible refine hK _ ?_); clear hK K)
 ((refine Ord.takeL (i := 10) (by rfl) (by as_aux_lemma => kernel_rfl) ?_ ?_ ?_); (focus first | exact fun _ _ _ _ h => h | exact fun _ _ _ _ h => HPQ.out _ _ _ _ (by rfl) h); (focus exact ⟨⟨_, HLW.out⟩, rfl⟩); intro K hK; go_simp; (with_reducible refine hK _ ?_); clear hK K)
 ((refine Ord.takeL (i := 11) (by rfl) (by as_aux_lemma => kernel_rfl) ?_ ?_ ?_); (focus first | exact fun _ _ _ _ h => h | exact fun _ _ _ _ h => HPQ.out _ _ _ _ (by rfl) h); (focus exact ⟨⟨_, HLW.out⟩, rfl⟩); intro K hK; go_simp; (with_reducible refine hK _ ?_); clear hK K)
 ((refine Ord.takeL (i := 12) (by rfl) (by as_aux_lemma => kernel_rfl) ?_ ?_ ?_); (focus first | exact fun _ _ _ _ h => h | exact fun _ _ _ _ h => HPQ.out _ _ _ _ (by rfl) h); (focus exact ⟨⟨_, HLW.out⟩, rfl⟩); intro K hK; go_simp; (with_reducible refine hK _ ?_); clear hK K)
 ((refine Ord.takeL (i := 13) (by rfl) (by as_aux_lemma => kernel_rfl) ?_ ?_ ?_); (focus first | exact fun _ _ _ _ h => h | exact fun _ _ _ _ h => HPQ.out _ _ _ _ (by rfl) h); (focus exact ⟨⟨_, HLW.out⟩, rfl⟩); intro K hK; go_simp; (with_reducible refine hK _ ?_); clear hK K)
 ((refine Ord.takeL (i := 14) (by rfl) (by as_aux_lemma => kernel_rfl) ?_ ?_ ?_); (focus first | exact fun _ _ _ _ h => h | exact fun _ _ _ _ h => HPQ.out _ _ _ _ (by rfl) h); (focus exact ⟨⟨_, HLW.out⟩, rfl⟩); intro K hK; go_simp; (with_reducible refine hK _ ?_); clear hK K)
 ((refine Ord.takeL (i := 15) (by rfl) (by as_aux_lemma => kernel_rfl) ?_ ?_ ?_); (focus first | exact fun _ _ _ _ h => h | exact fun _ _ _ _ h => HPQ.out _ _ _ _ (by rfl) h); (focus exact ⟨⟨_, HLW.out⟩, rfl⟩); intro K hK; go_simp; (with_reducible refine hK _ ?_); clear hK K)
 clear ya0 ya1 ya2 ya3 yb0 yb1 yb2 yb3
 clear hjk hjk1 hjk2 hjl hjl1 hjl2 hjd
 refine Ord.allL1 (i := 16) (by as_aux_lemma => kernel_rfl) (by rfl) (fun K hK => ?_)
 go_simp
 obtain ⟨wB, hv⟩ : ∃ x, wd.alloc (.cells #[.int .i64 pa.f0, .slice P1a pa.f1.length r1a, .slice P2a pa.f2.length r2a, .slice P3a pa.f3.length r3a, .int .i64 pb.f0, .slice P1b pb.f1.length r1b, .slice P2b pb.f2.length r2b, .slice P3b pb.f3.length r3b] 37) = x := ⟨_, rfl⟩
 rw [hv]
 obtain ⟨gB, hg⟩ : ∃ x, wd.heap.size = x := ⟨_, rfl⟩
 rw [hg]
 have BKB : Aside0 (wB.heap[gB]? = some (.cells #[.int .i64 pa.f0, .slice P1a pa.f1.length r1a, .slice P2a pa.f2.length r2a, .slice P3a pa.f3.length r3a, .int .i64 pb.f0, .slice P1b pb.f1.length r1b, .slice P2b pb.f2.length r2b, .slice P3b pb.f3.length r3b] 37 (0, 0))) := ⟨by rw [← hv, ← hg]; exact blk_new _ _⟩
 have STB : Aside0 (Below wd.heap.size wd wB) := ⟨hv ▸ below1 _ _⟩
 have GSB : Aside0 (wd.heap.size = gB) := ⟨hg⟩
 have HLW := Aside0.mk (join_below HLW.out STB.out)
 have HQB := HQ
 have HQ := Aside0.mk (HQ.out.later STB.out)
 clear hv hg
 refine hK _ _ ⟨⟨_, HLW.out⟩, rfl⟩ ?_
 clear hK K
 ((refine Ord.takeL (i := 17) (by rfl) (by as_aux_lemma => kernel_rfl) ?_ ?_ ?_); (focus first | exact fun _ _ _ _ h => h | exact fun _ _ _ _ h => HPQ.out _ _ _ _ (by rfl) h); (focus exact ⟨⟨_, HLW.out⟩, rfl⟩); intro K hK; go_simp; (with_reducible refine hK _ ?_); clear hK K)
 refine Ord.allL1 (i := 18) (by as_aux_lemma => kernel_rfl) (by rfl) (fun K hK => ?_)
 go_simp
 obtain ⟨wP, hv⟩ : ∃ x, wB.alloc (.cells #[.int .i64 6, .slice none 0 0, .slice none 0 0, .slice (some ⟨gB, 0, none⟩) 2 2] 37) = x := ⟨_, rfl⟩
 rw [hv]
 obtain ⟨gP, hg⟩ : ∃ x, wB.heap.size = x := ⟨_, rfl⟩
 rw [hg]
 have BKP : Aside0 (wP.heap[gP]? = some (.cells #[.int .i64 6, .slice none 0 0, .slice none 0 0, .slice (some ⟨gB, 0, none⟩) 2 2] 37 (0, 0))) := ⟨by rw [← hv, ← hg]; exact blk_new _ _⟩
 have STP : Aside0 (Below wB.heap.size wB wP) := ⟨hv ▸ below1 _ _⟩
 have GSP : Aside0 (wB.heap.size = gP) := ⟨hg⟩
 have HLW := Aside0.mk (join_below HLW.out STP.out)
 have HQP := HQ
 have HQ := Aside0.mk (HQ.out.later STP.out)
 clear hv hg
 refine hK _ _ ⟨⟨_, HLW.out⟩, rfl⟩ ?_
 clear hK K
 have HTW : Aside0 (Kd.F kPt wP (fun q => q = gB ∨ ((okA q ∨ w1.heap.size ≤ q) ∧ q ≠ g2)) (some ⟨gB, 0, none⟩) 2 [pa, pb]) := ⟨f_two (blk_below BKB.out STP.out) rfl (Kd.FK_below HEa.out HLW.out) (Kd.FK_below HEb.out HLW.out) (fun q h => h) (fun q h => h)⟩
 have HFP : Aside0 (Kd.FK kPt wP (fun q => q = gB ∨ ((okA q ∨ w1.heap.size ≤ q) ∧ q ≠ g2)) ⟨6, [], [], [pa, pb]⟩ [.int .i64 6, .slice none 0 0, .slice none 0 0, .slice (some ⟨gB, 0, none⟩) 2 2]) := ⟨k37_mkF wP _ ⟨6, [], [], [pa, pb]⟩ (show 0 ≤ 0 from Nat.le_refl _) (Kd.F_nil _ _ _) (show 0 ≤ 0 from Nat.le_refl _) (Kd.F_nil _ _ _) (show 2 ≤ 2 from Nat.le_refl _) HTW.out⟩
 have HFX := Aside0.mk (f_one BKP.out rfl HFP.out)
 have HFT : Aside0 (Kd.F kPt wP (fun q => okA q ∨ w1.heap.size ≤ q) (some ⟨g2, 0, none⟩) j (xs.take j)) := ⟨by have h := Kd.F_take (m := j) (HJ.out.symm ▸ Kd.N_F HQ.out.n) (by have := HJ.out; omega); rwa [List.length_take, Nat.min_eq_left (by have := HJ.out; omega)] at h⟩
 refine Ord.allL1 (i := 19) (by as_aux_lemma => kernel_rfl) (by rfl) (fun K hK => ?_)
 refine n_append_full kPt (w0 := w1) w1.heap.size (by rfl) (.tmp 179) (.tmp 192) 35 37 (.agg #[.int .i64 0, .slice none 0 0, .slice none 0 0, .slice none 0 0]) 80 rfl Tryd.underlying35 (by as_aux_lemma => kernel_rfl) rfl (by decide) (by decide) (xs.take j) [⟨6, [], [], [pa, pb]⟩] ⟨g2, 0, none⟩ ⟨gP, 0, none⟩ j 1 1 (fun q => okA q ∨ w1.heap.size ≤ q) (fun q => okA q ∨ w1.heap.size ≤ q) (fun q => q = gP ∨ (q = gB ∨ ((okA q ∨ w1.heap.size ≤ q) ∧ q ≠ g2))) rfl rfl HFT.out HFX.out (by decide) (fun q h => h) (fun q hq => by have h1 := HQ.out.b.size; have h2 := HDR.out.size; have h3 := GSB.out; have h4 := GSP.out; have h5 := STB.out.size; have h6 := HQB.out.b.size; have h7 := HQP.out.b.size; rcases hq with hq | hq | hq; (· exact Or.inr (by omega)); (· exact Or.inr (by omega)); (· exact hq.1)) (fun q hq => Or.inr (Nat.le_trans HQ.out.b.size hq)) HQ.out.b HQ.out.b.size (by omega) ?_
 intro v9 w9 hN hB hgr hat
 obtain ⟨A9, c9, hv9⟩ := Kd.N_slice hN
 subst hv9
 have HX := Aside0.mk (PatAt.mk hN hB)
 have HLW := Aside0.mk (join_below HLW.out (Below.grown (Below.refl _ _) hgr (Nat.le_refl _) (fun k hk => by cases hk)))
 clear hN hB hgr hat
 refine hK _ _ ⟨⟨_, HLW.out⟩, rfl⟩ ?_
 clear hK K
 refine Ord.lastL (by as_aux_lemma => kernel_rfl) (by rfl) (by decide) (fun K hK => ?_)
 go_simp
 refine hK _ _ ?_
 clear hK K
 obtain ⟨rfl, rfl⟩ := HPA.out
 refine wpAnyH_done (by as_aux_lemma => kernel_rfl) ?_ _
 refine HQf.out _ _ _ _ _ _ _ _ _ _ _ _ _ _ _ _ _ _ _ _ A9 _ c9 w9 ?_ HX.out
 first | rfl | (rw [List.length_append]; rfl) | simp
end Go.Proofs.YthdfmbmbjpmlaaaDoor.Rn
end
section
set_option linter.unusedVariables false
set_option linter.unusedSimpArgs false
namespace Go.Proofs.YthdfmbmbjpmlaaaDoor.Rn
open Go Go.RowKit Go.Proofs.YthdfmbmbjpmlaaaDoorW.PrintWords Go.Proofs.YthdfmbmbjpmlaaaDoorW.PrintLast Go.Proofs.YthdfmbmbjpmlaaaDoorW.PrintMore
set_option maxHeartbeats 200000000 in
set_option maxRecDepth 100000 in
theorem pat_reg18 {Q : Exit → Act → World → Prop} {u0 u1 u4 u5 u6 u7 u8 u10 u13 u14 u15 u16 u17 u18 u19 u20 u21 u22 u23 u24 u25 u26 u27 u28 u29 u30 u31 u32 u33 u34 u35 u36 u37 u38 u39 u40 u41 u42 u43 u44 u45 u46 u47 u48 u49 u50 u51 u52 u53 u54 u55 u56 u57 u58 u59 u60 u61 u62 u63 u64 u65 u66 u67 u68 u69 u70 u71 u72 u73 u74 u75 u76 u77 u78 u79 u80 u81 u82 u83 u84 u85 u86 u87 u88 u89 u90 u91 u92 u93 u94 u95 u96 u97 u98 u99 u100 u101 u102 u103 u104 u105 u106 u107 u108 u109 u110 u111 u112 u113 u114 u115 u116 u117 u118 u119 u120 u121 u122 u123 u124 u125 u126 u127 u128 u129 u130 u131 u132 u133 u134 u135 u136 u137 u138 u139 u140 u141 u142 u143 u144 u145 u146 u147 u148 u149 u150 u151 u152 u153 u154 u155 u156 u157 u158 u159 u160 u161 u162 u163 u164 u165 u166 u167 u168 u169 u170 u171 u172 u173 u174 u175 u176 u177 u178 u179 u180 u181 u182 u183 u184 u185 u186 u187 u188 u189 u190 u191 u192 u193 u194 u195 u196 u197 u198 u199 u200 u201 u202 u203 u204 u205 u206 u207 u208 u209 u210 u211 u212 u213 u214 : Value} {W w1 w2 : World} {okA : Nat → Prop} {xs : List Pt} {k : Int} {ins calls rets : List ByteArray} {A1 A2 A3 : Option Addr} {c1 c2 c3 : Nat} {d : Nat} {g2 j : Nat} (hA : ∀ q, okA q → q < W.heap.size) (hB0 : Below W.heap.size W w1) (hT2 : TxtIn W okA A2 calls c2) (hT3 : TxtIn W okA A3 rets c3) (hQ0 : PatAt w1 w2 okA (.slice (some ⟨g2, 0, none⟩) (j + 1) d) xs) (hj : xs.length = j + 1) (hj8 : j + 1 ≤ 8)
 (hP : ∀ (c : List PanicEntry) (a a' : Act) (w : World), a'.defers = a.defers → Q (.panic c) a' w → Q (.panic c) a w) (hQ : ∀ (v125 v126 v127 v128 v129 v130 v131 v132 v133 v134 v135 v136 v137 v138 v139 v140 v141 v142 v143 : Value) (w9 : World), PatAt w1 w9 okA (.slice (some ⟨g2, 0, none⟩) (j + 1) d) (xs.set j (⟨3, pickS calls (wrap64 (k.tdiv 11)), pickS rets (wrap64 (k.tdiv 13)), [xs.getD j ptZ]⟩ : Pt)) → Q .normal ⟨#[u0, u1, .slice A2 calls.length c2, .slice A3 rets.length c3, u4, u5, u6, u7, u8, .slice (some ⟨g2, 0, none⟩) (j + 1) d, u10, .int .i64 ((j + 1 : Nat) : Int), .int .i64 k, u13, u14, u15, u16, u17, u18, u19, u20, u21, u22, u23, u24, u25, u26, u27, u28, u29, u30, u31, u32, u33, u34, u35, u36, u37, u38, u39, u40, u41, u42, u43, u44, u45, u46, u47, u48, u49, u50, u51, u52, u53, u54, u55, u56, u57, u58, u59, u60, u61, u62, u63, u64, u65, u66, u67, u68, u69, u70, u71, u72, u73, u74, u75, u76, u77, u78, u79, u80, u81, u82, u83, u84, u85, u86, u87, u88, u89, u90, u91, u92, u93, u94, u95, u96, u97, u98, u99, u100, u101, u102, u103, u104, u105, u106, u107, u108, u109, u110, u111, u112, u113, u114, u115, u116, u117, u118, u119, u120, u121, u122, u123, u124, v125, v126, v127, v128, v129, v130, v131, v132, v133, v134, v135, v136, v137, v138, v139, v140, v141, v142, v143, u144, u145, u146, u147, u148, u149, u150, u151, u152, u153, u154, u155, u156, u157, u158, u159, u160, u161, u162, u163, u164, u165, u166, u167, u168, u169, u170, u171, u172, u173, u174, u175, u176, u177, u178, u179, u180, u181, u182, u183, u184, u185, u186, u187, u188, u189, u190, u191, u192, u193, u194, u195, u196, u197, u198, u199, u200, u201, u202, u203, u204, u205, u206, u207, u208, u209, u210, u211, u212, u213, u214], []⟩ w9) :
 Code.wp Tryd.prog (Code.region 18 (opsOf Tryd.f17 18) true) Q ⟨#[u0, u1, .slice A2 calls.length c2, .slice A3 rets.length c3, u4, u5, u6, u7, u8, .slice (some ⟨g2, 0, none⟩) (j + 1) d, u10, .int .i64 ((j + 1 : Nat) : Int), .int .i64 k, u13, u14, u15, u16, u17, u18, u19, u20, u21, u22, u23, u24, u25, u26, u27, u28, u29, u30, u31, u32, u33, u34, u35, u36, u37, u38, u39, u40, u41, u42, u43, u44, u45, u46, u47, u48, u49, u50, u51, u52, u53, u54, u55, u56, u57, u58, u59, u60, u61, u62, u63, u64, u65, u66, u67, u68, u69, u70, u71, u72, u73, u74, u75, u76, u77, u78, u79, u80, u81, u82, u83, u84, u85, u86, u87, u88, u89, u90, u91, u92, u93, u94, u95, u96, u97, u98, u99, u100, u101, u102, u103, u104, u105, u106, u107, u108, u109, u110, u111, u112, u113, u114, u115, u116, u117, u118, u119, u120, u121, u122, u123, u124, u125, u126, u127, u128, u129, u130, u131, u132, u133, u134, u135, u136, u137, u138, u139, u140, u141, u142, u143, u144, u145, u146, u147, u148, u149, u150, u151, u152, u153, u154, u155, u156, u157, u158, u159, u160, u161, u162, u163, u164, u165, u166, u167, u168, u169, u170, u171, u172, u173, u174, u175, u176, u177, u178, u179, u180, u181, u182, u183, u184, u185, u186, u187, u188, u189, u190, u191, u192, u193, u194, u195, u196, u197, u198, u199, u200, u201, u202, u203, u204, u205, u206, u207, u208, u209, u210, u211, u212, u213, u214], []⟩ w2 := by
 have HA := Aside0.mk hA
 have HB0 := Aside0.mk hB0
 have HT2 := Aside0.mk hT2
 have HT3 := Aside0.mk hT3
 have HQf := Aside0.mk hQ
 have HPQ := Aside0.mk hP
 clear hP hQ hA hB0 hT2 hT3
 conv in (opsOf _ _) => whnf
 have HQ := Aside0.mk hQ0
 have HJ := Aside0.mk hj
 have HG2 : Aside0 (g2 < w2.heap.size) := ⟨Kd.N_lt hQ0.n g2 rfl⟩
 obtain ⟨csa, hcla, hFKa, hcca, _⟩ := Kd.N_elem HQ.out.n ptZ ((j : Nat) : Int) (by omega) (by omega)
 rw [Int.toNat_natCast] at hFKa hcca
 obtain ⟨pa, hpa⟩ : ∃ p, xs.getD (j) ptZ = p := ⟨_, rfl⟩
 rw [hpa] at hFKa
 obtain ⟨P1a, r1a, P2a, r2a, P3a, r3a, rfl, _, _, _, _, _, _⟩ := k37_open (Kd.FK_now hFKa)
 have HEa := Aside0.mk hFKa
 have HPA := Aside0.mk hpa
 have HCa := Aside0.mk hcca
 clear hcca hcla hFKa hpa hj hQ0
 obtain ⟨wd, hwd⟩ : ∃ x, w2.drew = x := ⟨_, rfl⟩
 have HDR : Aside0 (Below w2.heap.size w2 wd) := ⟨hwd ▸ below_drew1 (Below.refl _ _)⟩
 have HLW := HDR
 have HQ := Aside0.mk (HQ.out.later HDR.out)
 have hq1 := pat_q (k.tdiv 11)
 have hq3 := pat_q (k.tdiv 13)
 refine Ord.region_L (S := fun w' => ∃ p : Later w2, w' = p.wx) (L := 19) (by as_aux_lemma => kernel_rfl) ?_
 rw [hwd]
 clear hwd
 have hj9 : (j : Int) ≤ 8 := by omega
 have hjk := pat_k j hj9
 have hjl : (j : Int) < (j : Int) + 1 := Int.lt_succ _
 have ya0 : ∀ p : Later w2, p.wx.cell? ⟨g2, j * 4 + 0, none⟩ = some (.int .i64 pa.f0) := fun p => cell_after p.below (HCa.out 0 _ rfl)
 have ya1 : ∀ p : Later w2, p.wx.cell? ⟨g2, j * 4 + 1, none⟩ = some (.slice P1a pa.f1.length r1a) := fun p => cell_after p.below (HCa.out 1 _ rfl)
 have ya2 : ∀ p : Later w2, p.wx.cell? ⟨g2, j * 4 + 2, none⟩ = some (.slice P2a pa.f2.length r2a) := fun p => cell_after p.below (HCa.out 2 _ rfl)
 have ya3 : ∀ p : Later w2, p.wx.cell? ⟨g2, j * 4 + 3, none⟩ = some (.slice P3a pa.f3.length r3a) := fun p => cell_after p.below (HCa.out 3 _ rfl)
 simp only [Nat.add_zero] at ya0
 ((refine Ord.takeL (i := 0) (by rfl) (by as_aux_lemma => kernel_rfl) ?_ ?_ ?_); (focus first | exact fun _ _ _ _ h => h | exact fun _ _ _ _ h => HPQ.out _ _ _ _ (by rfl) h); (focus exact ⟨⟨_, HLW.out⟩, rfl⟩); intro K hK; go_simp; (with_reducible refine hK _ ?_); clear hK K)
 ((refine Ord.takeL (i := 1) (by rfl) (by as_aux_lemma => kernel_rfl) ?_ ?_ ?_); (focus first | exact fun _ _ _ _ h => h | exact fun _ _ _ _ h => HPQ.out _ _ _ _ (by rfl) h); (focus exact ⟨⟨_, HLW.out⟩, rfl⟩); intro K hK; go_simp; (with_reducible refine hK _ ?_); clear hK K)
 ((refine Ord.takeL (i := 2) (by rfl) (by as_aux_lemma => kernel_rfl) ?_ ?_ ?_); (focus first | exact fun _ _ _ _ h => h | exact fun _ _ _ _ h => HPQ.out _ _ _ _ (by rfl) h); (focus exact ⟨⟨_, HLW.out⟩, rfl⟩); intro K hK; go_simp; (with_reducible refine hK _ ?_); clear hK K)
 ((refine Ord.takeL (i := 3) (by rfl) (by as_aux_lemma => kernel_rfl) ?_ ?_ ?_); (focus first | exact fun _ _ _ _ h => h | exact fun _ _ _ _ h => HPQ.out _ _ _ _ (by rfl) h); (focus exact ⟨⟨_, HLW.out⟩, rfl⟩); intro K hK; go_simp; (with_reducible refine hK _ ?_); clear hK K)
 ((refine Ord.takeL (i := 4) (by rfl) (by as_aux_lemma => kernel_rfl) ?_ ?_ ?_); (focus first | exact fun _ _ _ _ h => h | exact fun _ _ _ _ h => HPQ.out _ _ _ _ (by rfl) h); (focus exact ⟨⟨_, HLW.out⟩, rfl⟩); intro K hK; go_simp; (with_reducible refine hK _ ?_); clear hK K)
 ((refine Ord.takeL (i := 5) (by rfl) (by as_aux_lemma => kernel_rfl) ?_ ?_ ?_); (focus first | exact fun _ _ _ _ h => h | exact fun _ _ _ _ h => HPQ.out _ _ _ _ (by rfl) h); (focus exact ⟨⟨_, HLW.out⟩, rfl⟩); intro K hK; go_simp; (with_reducible refine hK _ ?_); clear hK K)
 ((refine Ord.takeC (i := 6) (by rfl) (by as_aux_lemma => kernel_rfl) ?_ ?_ rfl (fun w' => by go_simp) (fun w' _ => pick_val calls A2 c2 (wrap64 (k.tdiv 11)) w' HT2.out.p (Kd.F_max HT2.out.f) HT2.out.c) ?_); (focus first | exact fun _ _ _ _ h => h | exact fun _ _ _ _ h => HPQ.out _ _ _ _ (by rfl) h); (focus exact ⟨⟨_, HLW.out⟩, rfl⟩); (try simp only [Act.put, List.setIfInBounds_toArray, List.set_cons_zero, List.set_cons_succ]))
 ((refine Ord.takeL (i := 7) (by rfl) (by as_aux_lemma => kernel_rfl) ?_ ?_ ?_); (focus first | exact fun _ _ _ _ h => h | exact fun _ _ _ _ h => HPQ.out _ _ _ _ (by rfl) h); (focus exact ⟨⟨_, HLW.out⟩, rfl⟩); intro K hK; go_simp; (with_reducible refine hK _ ?_); clear hK K)
 ((refine Ord.takeL (i := 8) (by rfl) (by as_aux_lemma => kernel_rfl) ?_ ?_ ?_); (focus first | exact fun _ _ _ _ h => h | exact fun _ _ _ _ h => HPQ.out _ _ _ _ (by rfl) h); (focus exact ⟨⟨_, HLW.out⟩, rfl⟩); intro K hK; go_simp; (with_reducible refine hK _ ?_); clear hK K)
 ((refine Ord.takeL (i := 9) (by rfl) (by as_aux_lemma => kernel_rfl) ?_ ?_ ?_); (focus first | exact fun _ _ _ _ h => h | exact fun _ _ _ _ h => HPQ.out _ _ _ _ (by rfl) h); (focus exact ⟨⟨_, HLW.out⟩, rfl⟩); intro K hK; go_simp; (with_reducible refine hK _ ?_); clear hK K)
 ((refine Ord.takeC (i := 10) (by rfl) (by as_aux_lemma => kernel_rfl) ?_ ?_ rfl (fun w' => by go_simp) (fun w' _ => pick_val rets A3 c3 (wrap64 (k.tdiv 13)) w' HT3.out.p (Kd.F_max HT3.out.f) HT3.out.c) ?_); (focus first | exact fun _ _ _ _ h => h | exact fun _ _ _ _ h => HPQ.out _ _ _ _ (by rfl) h); (focus exact ⟨⟨_, HLW.out⟩, rfl⟩); (try simp only [Act.put, List.setIfInBounds_toArray, List.set_cons_zero, List.set_cons_succ]))
 ((refine Ord.takeL (i := 11) (by rfl) (by as_aux_lemma => kernel_rfl) ?_ ?_ ?_); (focus first | exact fun _ _ _ _ h => h | exact fun _ _ _ _ h => HPQ.out _ _ _ _ (by rfl) h); (focus exact ⟨⟨_, HLW.out⟩, rfl⟩); intro K hK; go_simp; (with_reducible refine hK _ ?_); clear hK K)
 ((refine Ord.takeL (i := 12) (by rfl) (by as_aux_lemma => kernel_rfl) ?_ ?_ ?_); (focus first | exact fun _ _ _ _ h => h | exact fun _ _ _ _ h => HPQ.out _ _ _ _ (by rfl) h); (focus exact ⟨⟨_, HLW.out⟩, rfl⟩); intro K hK; go_simp; (with_reducible refine hK _ ?_); clear hK K)
 ((refine Ord.takeL (i := 13) (by rfl) (by as_aux_lemma => kernel_rfl) ?_ ?_ ?_); (focus first | exact fun _ _ _ _ h => h | exact fun _ _ _ _ h => HPQ.out _ _ _ _ (by rfl) h); (focus exact ⟨⟨_, HLW.out⟩, rfl⟩); intro K hK; go_simp; (with_reducible refine hK _ ?_); clear hK K)
 ((refine Ord.takeL (i := 14) (by rfl) (by as_aux_lemma => kernel_rfl) ?_ ?_ ?_); (focus first | exact fun _ _ _ _ h => h | exact fun _ _ _ _ h => HPQ.out _ _ _ _ (by rfl) h); (focus exact ⟨⟨_, HLW.out⟩, rfl⟩); intro K hK; go_simp; (with_reducible refine hK _ ?_); clear hK K)
 ((refine Ord.takeL (i := 15) (by rfl) (by as_aux_lemma => kernel_rfl) ?_ ?_ ?_); (focus first | exact fun _ _ _ _ h => h | exact fun _ _ _ _ h => HPQ.out _ _ _ _ (by rfl) h); (focus exact ⟨⟨_, HLW.out⟩, rfl⟩); intro K hK; go_simp; (with_reducible refine hK _ ?_); clear hK K)
 clear ya0 ya1 ya2 ya3
 refine Ord.allL1 (i := 16) (by as_aux_lemma => kernel_rfl) (by rfl) (fun K hK => ?_)
 go_simp
 obtain ⟨wB, hv⟩ : ∃ x, wd.alloc (.cells #[.int .i64 pa.f0, .slice P1a pa.f1.length r1a, .slice P2a pa.f2.length r2a, .slice P3a pa.f3.length r3a] 37) = x := ⟨_, rfl⟩
 rw [hv]
 obtain ⟨gB, hg⟩ : ∃ x, wd.heap.size = x := ⟨_, rfl⟩
 rw [hg]
 have BKB : Aside0 (wB.heap[gB]? = some (.cells #[.int .i64 pa.f0, .slice P1a pa.f1.length r1a, .slice P2a pa.f2.length r2a, .slice P3a pa.f3.length r3a] 37 (0, 0))) := ⟨by rw [← hv, ← hg]; exact blk_new _ _⟩
 have STB : Aside0 (Below wd.heap.size wd wB) := ⟨hv ▸ below1 _ _⟩
 have GSB : Aside0 (wd.heap.size = gB) := ⟨hg⟩
 have HLW := Aside0.mk (join_below HLW.out STB.out)
 have HQB := HQ
 have HQ := Aside0.mk (HQ.out.later STB.out)
 clear hv hg
 refine hK _ _ ⟨⟨_, HLW.out⟩, rfl⟩ ?_
 clear hK K
 ((refine Ord.takeL (i := 17) (by rfl) (by as_aux_lemma => kernel_rfl) ?_ ?_ ?_); (focus first | exact fun _ _ _ _ h => h | exact fun _ _ _ _ h => HPQ.out _ _ _ _ (by rfl) h); (focus exact ⟨⟨_, HLW.out⟩, rfl⟩); intro K hK; go_simp; (with_reducible refine hK _ ?_); clear hK K)
 ((refine Ord.takeL (i := 18) (by rfl) (by as_aux_lemma => kernel_rfl) ?_ ?_ ?_); (focus first | exact fun _ _ _ _ h => h | exact fun _ _ _ _ h => HPQ.out _ _ _ _ (by rfl) h); (focus exact ⟨⟨_, HLW.out⟩, rfl⟩); intro K hK; go_simp; (with_reducible refine hK _ ?_); clear hK K)
 clear hjk hjl hq1 hq3
 have HFP : Aside0 (Kd.FK kPt wB (fun q => q = gB ∨ ((okA q ∨ w1.heap.size ≤ q) ∧ q ≠ g2)) ⟨3, pickS calls (wrap64 (k.tdiv 11)), pickS rets (wrap64 (k.tdiv 13)), [pa]⟩ [.int .i64 3, .slice (pickA calls A2 (wrap64 (k.tdiv 11))) (pickS calls (wrap64 (k.tdiv 11))).length (pickC calls c2 (wrap64 (k.tdiv 11))), .slice (pickA rets A3 (wrap64 (k.tdiv 13))) (pickS rets (wrap64 (k.tdiv 13))).length (pickC rets c3 (wrap64 (k.tdiv 13))), .slice (some ⟨gB, 0, none⟩) 1 1]) := ⟨k37_mkF wB _ ⟨3, pickS calls (wrap64 (k.tdiv 11)), pickS rets (wrap64 (k.tdiv 13)), [pa]⟩ (pick_le _ HT2.out.p HT2.out.c) (Kd.F_mono (pick_F _ HT2.out.p HT2.out.c (Kd.F_below HT2.out.f (join_below HB0.out HQ.out.b))) (fun q hq => by have h1 := Kd.N_base HQ.out.n g2 rfl; have h2 := HA.out q hq; have h3 := HB0.out.size; exact Or.inr ⟨Or.inl hq, by omega⟩)) (pick_le _ HT3.out.p HT3.out.c) (Kd.F_mono (pick_F _ HT3.out.p HT3.out.c (Kd.F_below HT3.out.f (join_below HB0.out HQ.out.b))) (fun q hq => by have h1 := Kd.N_base HQ.out.n g2 rfl; have h2 := HA.out q hq; have h3 := HB0.out.size; exact Or.inr ⟨Or.inl hq, by omega⟩)) (show 1 ≤ 1 from Nat.le_refl _) (f_one BKB.out rfl (Kd.FK_below HEa.out HLW.out))⟩
 have HSG := Aside0.mk (Kd.N_seg HQ.out.n (j : Int) (by omega) (by omega) (c := [.int .i64 pa.f0, .slice P1a pa.f1.length r1a, .slice P2a pa.f2.length r2a, .slice P3a pa.f3.length r3a]) (seg := [.int .i64 3, .slice (pickA calls A2 (wrap64 (k.tdiv 11))) (pickS calls (wrap64 (k.tdiv 11))).length (pickC calls c2 (wrap64 (k.tdiv 11))), .slice (pickA rets A3 (wrap64 (k.tdiv 13))) (pickS rets (wrap64 (k.tdiv 13))).length (pickC rets c3 (wrap64 (k.tdiv 13))), .slice (some ⟨gB, 0, none⟩) 1 1]) (j := 0) rfl (fun i u hu => cell_after HLW.out (HCa.out i u hu)) (Nat.le_refl _) (x' := ⟨3, pickS calls (wrap64 (k.tdiv 11)), pickS rets (wrap64 (k.tdiv 13)), [pa]⟩) HFP.out (fun q hq => by have h1 := HQB.out.b.size; have h2 := HG2.out; have h3 := GSB.out; have h4 := HDR.out.size; rcases hq with hq | hq; (· rw [hq]; exact ⟨Or.inr (by omega), by omega⟩); (· exact hq)))
 obtain ⟨_, _, _, _, hfz⟩ := Kd.N_elem HQ.out.n ptZ (j : Int) (by omega) (by omega)
 rw [Int.toNat_natCast] at hfz
 have hsz4 : kPt.sz = 4 := rfl
 rw [hsz4] at hfz
 have y0 : World.cell? wB ⟨g2, j * 4 + 0, none⟩ = some (.int .i64 pa.f0) := cell_after HLW.out (HCa.out 0 _ rfl)
 have z0 : World.frozen? wB ⟨g2, j * 4 + 0, none⟩ = false := hfz 0
 have y1 : World.cell? wB ⟨g2, j * 4 + 1, none⟩ = some (.slice P1a pa.f1.length r1a) := cell_after HLW.out (HCa.out 1 _ rfl)
 have z1 : World.frozen? wB ⟨g2, j * 4 + 1, none⟩ = false := hfz 1
 have y2 : World.cell? wB ⟨g2, j * 4 + 2, none⟩ = some (.slice P2a pa.f2.length r2a) := cell_after HLW.out (HCa.out 2 _ rfl)
 have z2 : World.frozen? wB ⟨g2, j * 4 + 2, none⟩ = false := hfz 2
 have y3 : World.cell? wB ⟨g2, j * 4 + 3, none⟩ = some (.slice P3a pa.f3.length r3a) := cell_after HLW.out (HCa.out 3 _ rfl)
 have z3 : World.frozen? wB ⟨g2, j * 4 + 3, none⟩ = false := hfz 3
 rw [Nat.add_zero] at y0 z0
 clear hfz hsz4
 refine Ord.lastL (by as_aux_lemma => kernel_rfl) (by rfl) (by decide) (fun K hK => ?_)
 go_simp
 clear y0 y1 y2 y3 z0 z1 z2 z3
 refine hK _ _ ?_
 clear hK K
 have HX : Aside0 (PatAt w1 ((((wB.setCell ⟨g2, j * 4, none⟩ (.int .i64 3)).setCell ⟨g2, j * 4 + 1, none⟩ (.slice (pickA calls A2 (wrap64 (k.tdiv 11))) (pickS calls (wrap64 (k.tdiv 11))).length (pickC calls c2 (wrap64 (k.tdiv 11))))).setCell ⟨g2, j * 4 + 2, none⟩ (.slice (pickA rets A3 (wrap64 (k.tdiv 13))) (pickS rets (wrap64 (k.tdiv 13))).length (pickC rets c3 (wrap64 (k.tdiv 13))))).setCell ⟨g2, j * 4 + 3, none⟩ (.slice (some ⟨gB, 0, none⟩) 1 1)) okA (.slice (some ⟨g2, 0, none⟩) (j + 1) d) (xs.set j ⟨3, pickS calls (wrap64 (k.tdiv 11)), pickS rets (wrap64 (k.tdiv 13)), [pa]⟩)) := ⟨⟨HSG.out.1, Below.grown HQ.out.b HSG.out.2 HQ.out.b.size (fun q hq => by obtain rfl := Option.some.inj hq; exact Kd.N_base HQ.out.n _ rfl)⟩⟩
 obtain rfl := HPA.out
 refine wpAnyH_done (by as_aux_lemma => kernel_rfl) ?_ _
 exact HQf.out _ _ _ _ _ _ _ _ _ _ _ _ _ _ _ _ _ _ _ _ HX.out
set_option maxHeartbeats 200000000 in
set_option maxRecDepth 100000 in
theorem pat_reg14 {Q : Exit → Act → World → Prop} {u0 u1 u4 u5 u6 u7 u8 u10 u11 u13 u14 u15 u16 u17 u18 u19 u20 u21 u22 u23 u24 u25 u26 u27 u28 u29 u30 u31 u32 u33 u34 u35 u36 u37 u38 u39 u40 u41 u42 u43 u44 u45 u46 u47 u48 u49 u50 u51 u52 u53 u54 u55 u56 u57 u58 u59 u60 u61 u62 u63 u64 u65 u66 u67 u68 u69 u70 u71 u72 u73 u74 u75 u76 u77 u78 u79 u80 u81 u82 u83 u84 u85 u86 u87 u88 u89 u90 u91 u92 u93 u94 u95 u96 u97 u98 u99 u100 u101 u102 u103 u104 u105 u106 u107 u108 u109 u110 u111 u112 u113 u114 u115 u116 u117 u118 u119 u120 u121 u122 u123 u124 u125 u126 u127 u128 u129 u130 u131 u132 u133 u134 u135 u136 u137 u138 u139 u140 u141 u142 u143 u144 u145 u146 u147 u148 u149 u150 u151 u152 u153 u154 u155 u156 u157 u158 u159 u160 u161 u162 u163 u164 u165 u166 u167 u168 u169 u170 u171 u172 u173 u174 u175 u176 u177 u178 u179 u180 u181 u182 u183 u184 u185 u186 u187 u188 u189 u190 u191 u192 u193 u194 u195 u196 u197 u198 u199 u200 u201 u202 u203 u204 u205 u206 u207 u208 u209 u210 u211 u212 u213 u214 : Value} {W w1 w2 : World} {okA : Nat → Prop} {xs : List Pt} {k : Int} {ins calls rets : List ByteArray} {A1 A2 A3 : Option Addr} {c1 c2 c3 : Nat} {d : Nat} {B : Option Addr} (hA : ∀ q, okA q → q < W.heap.size) (hB0 : Below W.heap.size W w1) (hT2 : TxtIn W okA A2 calls c2) (hT3 : TxtIn W okA A3 rets c3) (hQ0 : PatAt w1 w2 okA (.slice B xs.length d) xs) (hx8 : xs.length ≤ 8)
 (hP : ∀ (c : List PanicEntry) (a a' : Act) (w : World), a'.defers = a.defers → Q (.panic c) a' w → Q (.panic c) a w) (hQ : ∀ (v72 v73 v74 v75 v76 v77 v78 v79 v80 v81 v82 v83 v84 v85 v86 v87 v88 v89 v90 v91 : Value) (A9 : Option Addr) (n9 c9 : Nat) (w9 : World), n9 = (xs ++ [(⟨3, pickS calls (wrap64 (k.tdiv 11)), pickS rets (wrap64 (k.tdiv 13)), [⟨if bits .and .i64 (wrap64 (k.tdiv 17)) 1 = 1 then 4 else 1, [], [], []⟩]⟩ : Pt)]).length → PatAt w1 w9 okA (.slice A9 (xs ++ [(⟨3, pickS calls (wrap64 (k.tdiv 11)), pickS rets (wrap64 (k.tdiv 13)), [⟨if bits .and .i64 (wrap64 (k.tdiv 17)) 1 = 1 then 4 else 1, [], [], []⟩]⟩ : Pt)]).length c9) (xs ++ [(⟨3, pickS calls (wrap64 (k.tdiv 11)), pickS rets (wrap64 (k.tdiv 13)), [⟨if bits .and .i64 (wrap64 (k.tdiv 17)) 1 = 1 then 4 else 1, [], [], []⟩]⟩ : Pt)]) → Q .normal ⟨#[u0, u1, .slice A2 calls.length c2, .slice A3 rets.length c3, u4, u5, u6, u7, u8, .slice A9 n9 c9, u10, u11, .int .i64 k, u13, u14, u15, u16, u17, u18, u19, u20, u21, u22, u23, u24, u25, u26, u27, u28, u29, u30, u31, u32, u33, u34, u35, u36, u37, u38, u39, u40, u41, u42, u43, u44, u45, u46, u47, u48, u49, u50, u51, u52, u53, u54, u55, u56, u57, u58, u59, u60, u61, u62, u63, u64, u65, u66, u67, u68, u69, u70, u71, v72, v73, v74, v75, v76, v77, v78, v79, v80, v81, v82, v83, v84, v85, v86, v87, v88, v89, v90, v91, u92, u93, u94, u95, u96, u97, u98, u99, u100, u101, u102, u103, u104, u105, u106, u107, u108, u109, u110, u111, u112, u113, u114, u115, u116, u117, u118, u119, u120, u121, u122, u123, u124, u125, u126, u127, u128, u129, u130, u131, u132, u133, u134, u135, u136, u137, u138, u139, u140, u141, u142, u143, u144, u145, u146, u147, u148, u149, u150, u151, u152, u153, u154, u155, u156, u157, u158, u159, u160, u161, u162, u163, u164, u165, u166, u167, u168, u169, u170, u171, u172, u173, u174, u175, u176, u177, u178, u179, u180, u181, u182, u183, u184, u185, u186, u187, u188, u189, u190, u191, u192, u193, u194, u195, u196, u197, u198, u199, u200, u201, u202, u203, u204, u205, u206, u207, u208, u209, u210, u211, u212, u213, u214], []⟩ w9) :
 Code.wp Tryd.prog (Code.region 14 (opsOf Tryd.f17 14) true) Q ⟨#[u0, u1, .slice A2 calls.length c2, .slice A3 rets.length c3, u4, u5, u6, u7, u8, .slice B xs.length d, u10, u11, .int .i64 k, u13, u14, u15, u16, u17, u18, u19, u20, u21, u22, u23, u24, u25, u26, u27, u28, u29, u30, u31, u32, u33, u34, u35, u36, u37, u38, u39, u40, u41, u42, u43, u44, u45, u46, u47, u48, u49, u50, u51, u52, u53, u54, u55, u56, u57, u58, u59, u60, u61, u62, u63, u64, u65, u66, u67, u68, u69, u70, u71, u72, u73, u74, u75, u76, u77, u78, u79, u80, u81, u82, u83, u84, u85, u86, u87, u88, u89, u90, u91, u92, u93, u94, u95, u96, u97, u98, u99, u100, u101, u102, u103, u104, u105, u106, u107, u108, u109, u110, u111, u112, u113, u114, u115, u116, u117, u118, u119, u120, u121, u122, u123, u124, u125, u126, u127, u128, u129, u130, u131, u132, u133, u134, u135, u136, u137, u138, u139, u140, u141, u142, u143, u144, u145, u146, u147, u148, u149, u150, u151, u152, u153, u154, u155, u156, u157, u158, u159, u160, u161, u162, u163, u164, u165, u166, u167, u168, u169, u170, u171, u172, u173, u174, u175, u176, u177, u178, u179, u180, u181, u182, u183, u184, u185, u186, u187, u188, u189, u190, u191, u192, u193, u194, u195, u196, u197, u198, u199, u200, u201, u202, u203, u204, u205, u206, u207, u208, u209, u210, u211, u212, u213, u214], []⟩ w2 := by
 have HA := Aside0.mk hA
 have HB0 := Aside0.mk hB0
 have HT2 := Aside0.mk hT2
 have HT3 := Aside0.mk hT3
 have HQf := Aside0.mk hQ
 have HPQ := Aside0.mk hP
 clear hP hQ hA hB0 hT2 hT3
 conv in (opsOf _ _) => whnf
 have HQ := Aside0.mk hQ0
 have HM := Aside0.mk hx8
 have HS2 := HQ
 clear hQ0 hx8
 obtain ⟨wd, hwd⟩ : ∃ x, w2.drew = x := ⟨_, rfl⟩
 have HDR : Aside0 (Below w2.heap.size w2 wd) := ⟨hwd ▸ below_drew1 (Below.refl _ _)⟩
 have HLW := HDR
 have HQ := Aside0.mk (HQ.out.later HDR.out)
 have hq1 := pat_q (k.tdiv 11)
 have hq3 := pat_q (k.tdiv 13)
 refine Ord.region_L (S := fun w' => ∃ p : Later w2, w' = p.wx) (L := 19) (by as_aux_lemma => kernel_rfl) ?_
 rw [hwd]
 clear hwd
 have hq7 := pat_q (k.tdiv 17)
 obtain ⟨bb, hbb⟩ : ∃ b, bits .and .i64 (wrap64 (k.tdiv 17)) 1 = b := ⟨_, rfl⟩
 have hb01 : bb = 0 ∨ bb = 1 := hbb ▸ bit_one _
 have hb0 : 0 ≤ bb := by omega
 have hb1 : bb < 2 := by omega
 obtain ⟨pk, hpk⟩ : ∃ p : Int, (if bb = 1 then (4 : Int) else 1) = p := ⟨_, rfl⟩
 have HPK : Aside0 ((if bits .and .i64 (wrap64 (k.tdiv 17)) 1 = 1 then (4 : Int) else 1) = pk) := ⟨by rw [hbb]; exact hpk⟩
 have HBB : Aside0 ((if bb = 1 then (4 : Int) else 1) = pk ∧ (bb = 0 ∨ bb = 1)) := ⟨⟨hpk, hb01⟩⟩
 clear hpk hb01
 ((refine Ord.takeLT (i := 0) (by rfl) (by as_aux_lemma => kernel_rfl) ?_ ?_ ?_); (focus first | exact fun _ _ _ _ h => h | exact fun _ _ _ _ h => HPQ.out _ _ _ _ (by rfl) h); (focus exact ⟨⟨_, HLW.out⟩, rfl⟩); intro K hK; go_simp; (with_reducible refine hK _ ?_); clear hK K)
 ((refine Ord.takeLT (i := 1) (by rfl) (by as_aux_lemma => kernel_rfl) ?_ ?_ ?_); (focus first | exact fun _ _ _ _ h => h | exact fun _ _ _ _ h => HPQ.out _ _ _ _ (by rfl) h); (focus exact ⟨⟨_, HLW.out⟩, rfl⟩); intro K hK; go_simp; (with_reducible refine hK _ ?_); clear hK K)
 ((refine Ord.takeLT (i := 2) (by rfl) (by as_aux_lemma => kernel_rfl) ?_ ?_ ?_); (focus first | exact fun _ _ _ _ h => h | exact fun _ _ _ _ h => HPQ.out _ _ _ _ (by rfl) h); (focus exact ⟨⟨_, HLW.out⟩, rfl⟩); intro K hK; go_simp; (with_reducible refine hK _ ?_); clear hK K)
 ((refine Ord.takeLT (i := 3) (by rfl) (by as_aux_lemma => kernel_rfl) ?_ ?_ ?_); (focus first | exact fun _ _ _ _ h => h | exact fun _ _ _ _ h => HPQ.out _ _ _ _ (by rfl) h); (focus exact ⟨⟨_, HLW.out⟩, rfl⟩); intro K hK; go_simp; (with_reducible refine hK _ ?_); clear hK K)
 ((refine Ord.takeCT (i := 4) (by rfl) (by as_aux_lemma => kernel_rfl) ?_ ?_ rfl (fun w' => by go_simp) (fun w' _ => pick_val calls A2 c2 (wrap64 (k.tdiv 11)) w' HT2.out.p (Kd.F_max HT2.out.f) HT2.out.c) ?_); (focus first | exact fun _ _ _ _ h => h | exact fun _ _ _ _ h => HPQ.out _ _ _ _ (by rfl) h); (focus exact ⟨⟨_, HLW.out⟩, rfl⟩); (try simp only [Act.put, List.setIfInBounds_toArray, List.set_cons_zero, List.set_cons_succ]))
 ((refine Ord.takeLT (i := 5) (by rfl) (by as_aux_lemma => kernel_rfl) ?_ ?_ ?_); (focus first | exact fun _ _ _ _ h => h | exact fun _ _ _ _ h => HPQ.out _ _ _ _ (by rfl) h); (focus exact ⟨⟨_, HLW.out⟩, rfl⟩); intro K hK; go_simp; (with_reducible refine hK _ ?_); clear hK K)
 ((refine Ord.takeLT (i := 6) (by rfl) (by as_aux_lemma => kernel_rfl) ?_ ?_ ?_); (focus first | exact fun _ _ _ _ h => h | exact fun _ _ _ _ h => HPQ.out _ _ _ _ (by rfl) h); (focus exact ⟨⟨_, HLW.out⟩, rfl⟩); intro K hK; go_simp; (with_reducible refine hK _ ?_); clear hK K)
 ((refine Ord.takeLT (i := 7) (by rfl) (by as_aux_lemma => kernel_rfl) ?_ ?_ ?_); (focus first | exact fun _ _ _ _ h => h | exact fun _ _ _ _ h => HPQ.out _ _ _ _ (by rfl) h); (focus exact ⟨⟨_, HLW.out⟩, rfl⟩); intro K hK; go_simp; (with_reducible refine hK _ ?_); clear hK K)
 ((refine Ord.takeCT (i := 8) (by rfl) (by as_aux_lemma => kernel_rfl) ?_ ?_ rfl (fun w' => by go_simp) (fun w' _ => pick_val rets A3 c3 (wrap64 (k.tdiv 13)) w' HT3.out.p (Kd.F_max HT3.out.f) HT3.out.c) ?_); (focus first | exact fun _ _ _ _ h => h | exact fun _ _ _ _ h => HPQ.out _ _ _ _ (by rfl) h); (focus exact ⟨⟨_, HLW.out⟩, rfl⟩); (try simp only [Act.put, List.setIfInBounds_toArray, List.set_cons_zero, List.set_cons_succ]))
 ((refine Ord.takeLT (i := 10) (by rfl) (by as_aux_lemma => kernel_rfl) ?_ ?_ ?_); (focus first | exact fun _ _ _ _ h => h | exact fun _ _ _ _ h => HPQ.out _ _ _ _ (by rfl) h); (focus exact ⟨⟨_, HLW.out⟩, rfl⟩); intro K hK; go_simp; (with_reducible refine hK _ ?_); clear hK K)
 ((refine Ord.takeLT (i := 11) (by rfl) (by as_aux_lemma => kernel_rfl) ?_ ?_ ?_); (focus first | exact fun _ _ _ _ h => h | exact fun _ _ _ _ h => HPQ.out _ _ _ _ (by rfl) h); (focus exact ⟨⟨_, HLW.out⟩, rfl⟩); intro K hK; go_simp; (with_reducible refine hK _ ?_); clear hK K)
 ((refine Ord.takeLT (i := 12) (by rfl) (by as_aux_lemma => kernel_rfl) ?_ ?_ ?_); (focus first | exact fun _ _ _ _ h => h | exact fun _ _ _ _ h => HPQ.out _ _ _ _ (by rfl) h); (focus exact ⟨⟨_, HLW.out⟩, rfl⟩); intro K hK; go_simp; (with_reducible refine hK _ ?_); clear hK K)
 clear hq1 hq3 hq7 hbb
 refine Ord.allL1 (i := 9) (by as_aux_lemma => kernel_rfl) (by rfl) (fun K hK => ?_)
 go_simp
 obtain ⟨wI, hv⟩ : ∃ x, wd.alloc (.cells #[.int .i64 1, .int .i64 4] 3) = x := ⟨_, rfl⟩
 rw [hv]
 obtain ⟨gI, hg⟩ : ∃ x, wd.heap.size = x := ⟨_, rfl⟩
 rw [hg]
 have BKI : Aside0 (wI.heap[gI]? = some (.cells #[.int .i64 1, .int .i64 4] 3 (0, 0))) := ⟨by rw [← hv, ← hg]; exact blk_new _ _⟩
 have STI : Aside0 (Below wd.heap.size wd wI) := ⟨hv ▸ below1 _ _⟩
 have GSI : Aside0 (wd.heap.size = gI) := ⟨hg⟩
 have HLW := Aside0.mk (join_below HLW.out STI.out)
 have HQI := HQ
 have HQ := Aside0.mk (HQ.out.later STI.out)
 clear hv hg
 refine hK _ _ ⟨⟨_, HLW.out⟩, rfl⟩ ?_
 clear hK K
 ((refine Ord.takeLT (i := 13) (by rfl) (by as_aux_lemma => kernel_rfl) ?_ ?_ ?_); (focus first | exact fun _ _ _ _ h => h | exact fun _ _ _ _ h => HPQ.out _ _ _ _ (by rfl) h); (focus exact ⟨⟨_, HLW.out⟩, rfl⟩); intro K hK; go_simp; (with_reducible refine hK _ ?_); clear hK K)
 have yI : World.cell? wI ⟨gI, bb.toNat, none⟩ = some (.int .i64 pk) := by rcases HBB.out.2 with h | h <;> (have h2 := HBB.out.1; rw [h] at h2 ⊢; simp at h2; rw [← h2]; exact blk_cell BKI.out _)
 refine Ord.allL1 (i := 14) (by as_aux_lemma => kernel_rfl) (by rfl) (fun K hK => ?_)
 go_simp
 refine hK _ _ ⟨⟨_, HLW.out⟩, rfl⟩ ?_
 clear hK K yI
 ((refine Ord.takeLT (i := 15) (by rfl) (by as_aux_lemma => kernel_rfl) ?_ ?_ ?_); (focus first | exact fun _ _ _ _ h => h | exact fun _ _ _ _ h => HPQ.out _ _ _ _ (by rfl) h); (focus exact ⟨⟨_, HLW.out⟩, rfl⟩); intro K hK; go_simp; (with_reducible refine hK _ ?_); clear hK K)
 refine Ord.allL1 (i := 16) (by as_aux_lemma => kernel_rfl) (by rfl) (fun K hK => ?_)
 go_simp
 obtain ⟨wB, hv⟩ : ∃ x, wI.alloc (.cells #[.int .i64 pk, .slice none 0 0, .slice none 0 0, .slice none 0 0] 37) = x := ⟨_, rfl⟩
 rw [hv]
 obtain ⟨gB, hg⟩ : ∃ x, wI.heap.size = x := ⟨_, rfl⟩
 rw [hg]
 have BKB : Aside0 (wB.heap[gB]? = some (.cells #[.int .i64 pk, .slice none 0 0, .slice none 0 0, .slice none 0 0] 37 (0, 0))) := ⟨by rw [← hv, ← hg]; exact blk_new _ _⟩
 have STB : Aside0 (Below wI.heap.size wI wB) := ⟨hv ▸ below1 _ _⟩
 have GSB : Aside0 (wI.heap.size = gB) := ⟨hg⟩
 have HLW := Aside0.mk (join_below HLW.out STB.out)
 have HQB := HQ
 have HQ := Aside0.mk (HQ.out.later STB.out)
 clear hv hg
 refine hK _ _ ⟨⟨_, HLW.out⟩, rfl⟩ ?_
 clear hK K
 ((refine Ord.takeLT (i := 17) (by rfl) (by as_aux_lemma => kernel_rfl) ?_ ?_ ?_); (focus first | exact fun _ _ _ _ h => h | exact fun _ _ _ _ h => HPQ.out _ _ _ _ (by rfl) h); (focus exact ⟨⟨_, HLW.out⟩, rfl⟩); intro K hK; go_simp; (with_reducible refine hK _ ?_); clear hK K)
 refine Ord.allL1 (i := 18) (by as_aux_lemma => kernel_rfl) (by rfl) (fun K hK => ?_)
 go_simp
 obtain ⟨wP, hv⟩ : ∃ x, wB.alloc (.cells #[.int .i64 3, .slice (pickA calls A2 (wrap64 (k.tdiv 11))) (pickS calls (wrap64 (k.tdiv 11))).length (pickC calls c2 (wrap64 (k.tdiv 11))), .slice (pickA rets A3 (wrap64 (k.tdiv 13))) (pickS rets (wrap64 (k.tdiv 13))).length (pickC rets c3 (wrap64 (k.tdiv 13))), .slice (some ⟨gB, 0, none⟩) 1 1] 37) = x := ⟨_, rfl⟩
 rw [hv]
 obtain ⟨gP, hg⟩ : ∃ x, wB.heap.size = x := ⟨_, rfl⟩
 rw [hg]
 have BKP : Aside0 (wP.heap[gP]? = some (.cells #[.int .i64 3, .slice (pickA calls A2 (wrap64 (k.tdiv 11))) (pickS calls (wrap64 (k.tdiv 11))).length (pickC calls c2 (wrap64 (k.tdiv 11))), .slice (pickA rets A3 (wrap64 (k.tdiv 13))) (pickS rets (wrap64 (k.tdiv 13))).length (pickC rets c3 (wrap64 (k.tdiv 13))), .slice (some ⟨gB, 0, none⟩) 1 1] 37 (0, 0))) := ⟨by rw [← hv, ← hg]; exact blk_new _ _⟩
 have STP : Aside0 (Below wB.heap.size wB wP) := ⟨hv ▸ below1 _ _⟩
 have GSP : Aside0 (wB.heap.size = gP) := ⟨hg⟩
 have HLW := Aside0.mk (join_below HLW.out STP.out)
 have HQP := HQ
 have HQ := Aside0.mk (HQ.out.later STP.out)
 clear hv hg
 refine hK _ _ ⟨⟨_, HLW.out⟩, rfl⟩ ?_
 clear hK K
 have HX0 : Aside0 (Kd.FK kPt wP (fun _ => False) ⟨pk, [], [], []⟩ [.int .i64 pk, .slice none 0 0, .slice none 0 0, .slice none 0 0]) := ⟨k37_mkF wP _ ⟨pk, [], [], []⟩ (show 0 ≤ 0 from Nat.le_refl _) (Kd.F_nil _ _ _) (show 0 ≤ 0 from Nat.le_refl _) (Kd.F_nil _ _ _) (show 0 ≤ 0 from Nat.le_refl _) (Kd.F_nil _ _ _)⟩
 have HFP : Aside0 (Kd.FK kPt wP (fun q => q = gB ∨ okA q) ⟨3, pickS calls (wrap64 (k.tdiv 11)), pickS rets (wrap64 (k.tdiv 13)), [⟨pk, [], [], []⟩]⟩ [.int .i64 3, .slice (pickA calls A2 (wrap64 (k.tdiv 11))) (pickS calls (wrap64 (k.tdiv 11))).length (pickC calls c2 (wrap64 (k.tdiv 11))), .slice (pickA rets A3 (wrap64 (k.tdiv 13))) (pickS rets (wrap64 (k.tdiv 13))).length (pickC rets c3 (wrap64 (k.tdiv 13))), .slice (some ⟨gB, 0, none⟩) 1 1]) := ⟨k37_mkF wP _ ⟨3, pickS calls (wrap64 (k.tdiv 11)), pickS rets (wrap64 (k.tdiv 13)), [⟨pk, [], [], []⟩]⟩ (pick_le _ HT2.out.p HT2.out.c) (Kd.F_mono (pick_F _ HT2.out.p HT2.out.c (Kd.F_below HT2.out.f (join_below HB0.out HQ.out.b))) (fun q hq => Or.inr hq)) (pick_le _ HT3.out.p HT3.out.c) (Kd.F_mono (pick_F _ HT3.out.p HT3.out.c (Kd.F_below HT3.out.f (join_below HB0.out HQ.out.b))) (fun q hq => Or.inr hq)) (show 1 ≤ 1 from Nat.le_refl _) (Kd.F_mono (f_one (blk_below BKB.out STP.out) rfl HX0.out) (fun q hq => Or.inl (hq.elim id (fun h => h.elim))))⟩
 have HFX := Aside0.mk (f_one BKP.out rfl HFP.out)
 refine Ord.lastL (by as_aux_lemma => kernel_rfl) (by rfl) (by decide) (fun K hK => ?_)
 refine Kd.N_append_rows_step kPt (w0 := w1) w1.heap.size (by rfl) (.tmp 72) (.tmp 90) 35 37 (.agg #[.int .i64 0, .slice none 0 0, .slice none 0 0, .slice none 0 0]) 80 rfl Tryd.underlying35 (by as_aux_lemma => kernel_rfl) rfl (by decide) (by decide) (.slice B xs.length d) xs [⟨3, pickS calls (wrap64 (k.tdiv 11)), pickS rets (wrap64 (k.tdiv 13)), [⟨pk, [], [], []⟩]⟩] (some ⟨gP, 0, none⟩) 1 1 (fun q => okA q ∨ w1.heap.size ≤ q) (fun q => q = gP ∨ (q = gB ∨ okA q)) rfl rfl HQ.out.n HFX.out (fun q hq => by have h1 := HQ.out.b.size; have h2 := HDR.out.size; have h3 := GSI.out; have h4 := GSB.out; have h5 := GSP.out; have h6 := STI.out.size; have h7 := STB.out.size; refine ⟨?_, fun e => ?_⟩; (· rcases hq with hq | hq | hq; (· exact Or.inr (by have := HQP.out.b.size; omega)); (· exact Or.inr (by have := HQB.out.b.size; omega)); (· exact Or.inl hq)); (· have h8 := Kd.N_base HS2.out.n q e.symm; have h9 := Kd.N_lt HS2.out.n q e.symm; have h10 := HB0.out.size; rcases hq with hq | hq | hq; (· omega); (· omega); (· have := HA.out q hq; omega))) (fun q hq => Or.inr (Nat.le_trans HQ.out.b.size hq)) HQ.out.b HQ.out.b.size (by have := HM.out; omega) ?_
 intro v9 w9 hN hB hgr hat
 obtain ⟨A9, c9, hv9⟩ := Kd.N_slice hN
 subst hv9
 have HX := Aside0.mk (PatAt.mk hN hB)
 clear hN hB hgr hat
 refine hK _ _ ?_
 clear hK K
 ((refine takeQ (i := 20) (by rfl) (by as_aux_lemma => kernel_rfl) (by as_aux_lemma => kernel_rfl) (by as_aux_lemma => kernel_rfl) ?_ ?_ ?_); (focus first | exact fun _ _ _ _ h => h | exact fun _ _ _ _ h => HPQ.out _ _ _ _ (by rfl) h); (focus exact trivial); intro K hK; go_simp; (with_reducible refine hK _ ?_); clear hK K)
 obtain rfl := HPK.out
 refine wpAnyH_done (by as_aux_lemma => kernel_rfl) ?_ _
 refine HQf.out _ _ _ _ _ _ _ _ _ _ _ _ _ _ _ _ _ _ _ _ A9 _ c9 w9 ?_ HX.out
 first | rfl | (rw [List.length_append]; rfl) | simp
end Go.Proofs.YthdfmbmbjpmlaaaDoor.Rn
end
section
set_option linter.unusedVariables false
set_option linter.unusedSimpArgs false
namespace Go.Proofs.YthdfmbmbjpmlaaaDoor.Rn
open Go Go.RowKit Go.Proofs.YthdfmbmbjpmlaaaDoorW.PrintWords Go.Proofs.YthdfmbmbjpmlaaaDoorW.PrintLast Go.Proofs.YthdfmbmbjpmlaaaDoorW.PrintMore
set_option maxHeartbeats 200000000 in
set_option maxRecDepth 100000 in
theorem pat_reg16 {Q : Exit → Act → World → Prop} {u0 u1 u2 u3 u4 u5 u6 u7 u8 u10 u12 u13 u14 u15 u16 u17 u18 u19 u20 u21 u22 u23 u24 u25 u26 u27 u28 u29 u30 u31 u32 u33 u34 u35 u36 u37 u38 u39 u40 u41 u42 u43 u44 u45 u46 u47 u48 u49 u50 u51 u52 u53 u54 u55 u56 u57 u58 u59 u60 u61 u62 u63 u64 u65 u66 u67 u68 u69 u70 u71 u72 u73 u74 u75 u76 u77 u78 u79 u80 u81 u82 u83 u84 u85 u86 u87 u88 u89 u90 u91 u92 u93 u94 u95 u96 u97 u98 u99 u100 u101 u102 u103 u104 u105 u106 u107 u108 u109 u110 u111 u112 u113 u114 u115 u116 u117 u118 u119 u120 u121 u122 u123 u124 u125 u126 u127 u128 u129 u130 u131 u132 u133 u134 u135 u136 u137 u138 u139 u140 u141 u142 u143 u144 u145 u146 u147 u148 u149 u150 u151 u152 u153 u154 u155 u156 u157 u158 u159 u160 u161 u162 u163 u164 u165 u166 u167 u168 u169 u170 u171 u172 u173 u174 u175 u176 u177 u178 u179 u180 u181 u182 u183 u184 u185 u186 u187 u188 u189 u190 u191 u192 u193 u194 u195 u196 u197 u198 u199 u200 u201 u202 u203 u204 u205 u206 u207 u208 u209 u210 u211 u212 u213 u214 : Value} {W w1 w2 : World} {okA : Nat → Prop} {xs : List Pt} {k : Int} {ins calls rets : List ByteArray} {A1 A2 A3 : Option Addr} {c1 c2 c3 : Nat} {d : Nat} {g2 j : Nat} (hA : ∀ q, okA q → q < W.heap.size) (hB0 : Below W.heap.size W w1) (hQ0 : PatAt w1 w2 okA (.slice (some ⟨g2, 0, none⟩) (j + 1) d) xs) (hj : xs.length = j + 1) (hj8 : j + 1 ≤ 8)
 (hP : ∀ (c : List PanicEntry) (a a' : Act) (w : World), a'.defers = a.defers → Q (.panic c) a' w → Q (.panic c) a w) (hQ : ∀ (v107 v108 v109 v110 v111 v112 v113 v114 v115 v116 v117 : Value) (w9 : World), PatAt w1 w9 okA (.slice (some ⟨g2, 0, none⟩) (j + 1) d) (xs.set j (⟨7, [], [], [xs.getD j ptZ]⟩ : Pt)) → Q .normal ⟨#[u0, u1, u2, u3, u4, u5, u6, u7, u8, .slice (some ⟨g2, 0, none⟩) (j + 1) d, u10, .int .i64 ((j + 1 : Nat) : Int), u12, u13, u14, u15, u16, u17, u18, u19, u20, u21, u22, u23, u24, u25, u26, u27, u28, u29, u30, u31, u32, u33, u34, u35, u36, u37, u38, u39, u40, u41, u42, u43, u44, u45, u46, u47, u48, u49, u50, u51, u52, u53, u54, u55, u56, u57, u58, u59, u60, u61, u62, u63, u64, u65, u66, u67, u68, u69, u70, u71, u72, u73, u74, u75, u76, u77, u78, u79, u80, u81, u82, u83, u84, u85, u86, u87, u88, u89, u90, u91, u92, u93, u94, u95, u96, u97, u98, u99, u100, u101, u102, u103, u104, u105, u106, v107, v108, v109, v110, v111, v112, v113, v114, v115, v116, v117, u118, u119, u120, u121, u122, u123, u124, u125, u126, u127, u128, u129, u130, u131, u132, u133, u134, u135, u136, u137, u138, u139, u140, u141, u142, u143, u144, u145, u146, u147, u148, u149, u150, u151, u152, u153, u154, u155, u156, u157, u158, u159, u160, u161, u162, u163, u164, u165, u166, u167, u168, u169, u170, u171, u172, u173, u174, u175, u176, u177, u178, u179, u180, u181, u182, u183, u184, u185, u186, u187, u188, u189, u190, u191, u192, u193, u194, u195, u196, u197, u198, u199, u200, u201, u202, u203, u204, u205, u206, u207, u208, u209, u210, u211, u212, u213, u214], []⟩ w9) :
 Code.wp Tryd.prog (Code.region 16 (opsOf Tryd.f17 16) false) Q ⟨#[u0, u1, u2, u3, u4, u5, u6, u7, u8, .slice (some ⟨g2, 0, none⟩) (j + 1) d, u10, .int .i64 ((j + 1 : Nat) : Int), u12, u13, u14, u15, u16, u17, u18, u19, u20, u21, u22, u23, u24, u25, u26, u27, u28, u29, u30, u31, u32, u33, u34, u35, u36, u37, u38, u39, u40, u41, u42, u43, u44, u45, u46, u47, u48, u49, u50, u51, u52, u53, u54, u55, u56, u57, u58, u59, u60, u61, u62, u63, u64, u65, u66, u67, u68, u69, u70, u71, u72, u73, u74, u75, u76, u77, u78, u79, u80, u81, u82, u83, u84, u85, u86, u87, u88, u89, u90, u91, u92, u93, u94, u95, u96, u97, u98, u99, u100, u101, u102, u103, u104, u105, u106, u107, u108, u109, u110, u111, u112, u113, u114, u115, u116, u117, u118, u119, u120, u121, u122, u123, u124, u125, u126, u127, u128, u129, u130, u131, u132, u133, u134, u135, u136, u137, u138, u139, u140, u141, u142, u143, u144, u145, u146, u147, u148, u149, u150, u151, u152, u153, u154, u155, u156, u157, u158, u159, u160, u161, u162, u163, u164, u165, u166, u167, u168, u169, u170, u171, u172, u173, u174, u175, u176, u177, u178, u179, u180, u181, u182, u183, u184, u185, u186, u187, u188, u189, u190, u191, u192, u193, u194, u195, u196, u197, u198, u199, u200, u201, u202, u203, u204, u205, u206, u207, u208, u209, u210, u211, u212, u213, u214], []⟩ w2 := by
 have HA := Aside0.mk hA
 have HB0 := Aside0.mk hB0
 have HQf := Aside0.mk hQ
 have HPQ := Aside0.mk hP
 clear hP hQ hA hB0
 conv in (opsOf _ _) => whnf
 rw [arr_mk]
 have HQ := Aside0.mk hQ0
 have HJ := Aside0.mk hj
 have HG2 : Aside0 (g2 < w2.heap.size) := ⟨Kd.N_lt hQ0.n g2 rfl⟩
 obtain ⟨csa, hcla, hFKa, hcca, _⟩ := Kd.N_elem HQ.out.n ptZ ((j : Nat) : Int) (by omega) (by omega)
 rw [Int.toNat_natCast] at hFKa hcca
 obtain ⟨pa, hpa⟩ : ∃ p, xs.getD (j) ptZ = p := ⟨_, rfl⟩
 rw [hpa] at hFKa
 obtain ⟨P1a, r1a, P2a, r2a, P3a, r3a, rfl, _, _, _, _, _, _⟩ := k37_open (Kd.FK_now hFKa)
 have HEa := Aside0.mk hFKa
 have HPA := Aside0.mk hpa
 have HCa := Aside0.mk hcca
 clear hcca hcla hFKa hpa hj hQ0
 have hj9 : (j : Int) ≤ 8 := by omega
 have y0 : w2.cell? ⟨g2, j * 4 + 0, none⟩ = some (.int .i64 pa.f0) := HCa.out 0 _ rfl
 have y1 : w2.cell? ⟨g2, j * 4 + 1, none⟩ = some (.slice P1a pa.f1.length r1a) := HCa.out 1 _ rfl
 have y2 : w2.cell? ⟨g2, j * 4 + 2, none⟩ = some (.slice P2a pa.f2.length r2a) := HCa.out 2 _ rfl
 have y3 : w2.cell? ⟨g2, j * 4 + 3, none⟩ = some (.slice P3a pa.f3.length r3a) := HCa.out 3 _ rfl
 rw [Nat.add_zero] at y0
 obtain ⟨wB, hwB⟩ : ∃ x, w2.alloc (.cells #[.int .i64 pa.f0, .slice P1a pa.f1.length r1a, .slice P2a pa.f2.length r2a, .slice P3a pa.f3.length r3a] 37) = x := ⟨_, rfl⟩
 have HBK : Aside0 (wB.heap[w2.heap.size]? = some (.cells #[.int .i64 pa.f0, .slice P1a pa.f1.length r1a, .slice P2a pa.f2.length r2a, .slice P3a pa.f3.length r3a] 37 (0, 0))) := ⟨by rw [← hwB]; exact blk_new _ _⟩
 have HST2 : Aside0 (Below w2.heap.size w2 wB) := ⟨hwB ▸ below1 _ _⟩
 have HQB := Aside0.mk (HQ.out.later HST2.out)
 have HFS : Aside0 (Kd.FK kPt wB (fun q => q = w2.heap.size ∨ ((okA q ∨ w1.heap.size ≤ q) ∧ q ≠ g2)) ⟨7, [], [], [pa]⟩ [.int .i64 7, .slice none 0 0, .slice none 0 0, .slice (some ⟨w2.heap.size, 0, none⟩) 1 1]) := ⟨k37_mkF wB _ ⟨7, [], [], [pa]⟩ (show 0 ≤ 0 from Nat.le_refl _) (Kd.F_nil _ _ _) (show 0 ≤ 0 from Nat.le_refl _) (Kd.F_nil _ _ _) (show 1 ≤ 1 from Nat.le_refl _) (f_one HBK.out rfl (Kd.FK_below HEa.out HST2.out))⟩
 go_wp2_with ((with_reducible refine gate_store (t := 37) (p := 117) (v := .tmp 116) rfl ?_); (try rw [hwB]); refine Kd.N_store kPt (w0 := w1) w1.heap.size ?hN ?hgd 37 (.tmp 117) (.tmp 116) rfl 37 (g := g2) (n := j + 1) (cap := d) (o' := j * 4) (j : Int) 0 xs ⟨7, [], [], [pa]⟩ (.agg #[.int .i64 7, .slice none 0 0, .slice none 0 0, .slice (some ⟨w2.heap.size, 0, none⟩) 1 1]) [.int .i64 7, .slice none 0 0, .slice none 0 0, .slice (some ⟨w2.heap.size, 0, none⟩) 1 1] [.int .i64 pa.f0, .slice P1a pa.f1.length r1a, .slice P2a pa.f2.length r2a, .slice P3a pa.f3.length r3a] (fun q => okA q ∨ w1.heap.size ≤ q) (fun q => q = w2.heap.size ∨ ((okA q ∨ w1.heap.size ≤ q) ∧ q ≠ g2)) ?haddr (by simp [kPt]; first | rfl | skip) ?hx rfl (by as_aux_lemma => kernel_rfl) (by simp [Value.oneCell']) HQB.out.n (by omega) (by omega) rfl (fun i u hu => cell_after HST2.out (HCa.out i u hu)) (Nat.le_refl _) HFS.out (fun q hq => by have h1 := HQ.out.b.size; have h2 := HG2.out; rcases hq with hq | hq; (· rw [hq]; exact ⟨Or.inr h1, by omega⟩); (· exact hq)) HQB.out.b ?_; (case hN => rfl); (case hgd => rfl); (case haddr => first | rfl | (simp [Act.eval]; done)); (case hx => first | rfl | (simp [Act.eval]; done)); intro w5 hN hB hgr; have HX := Aside0.mk (PatAt.mk hN hB); clear hN hB hgr)
 obtain rfl := HPA.out
 exact HQf.out _ _ _ _ _ _ _ _ _ _ _ _ HX.out
set_option maxHeartbeats 200000000 in
set_option maxRecDepth 100000 in
theorem pat_reg8 {Q : Exit → Act → World → Prop} {u0 u2 u3 u4 u5 u6 u7 u8 u10 u11 u13 u14 u15 u16 u17 u18 u19 u20 u21 u22 u23 u24 u25 u26 u27 u28 u29 u30 u31 u32 u33 u34 u35 u36 u37 u38 u39 u40 u41 u42 u43 u44 u45 u46 u47 u48 u49 u50 u51 u52 u53 u54 u55 u56 u57 u58 u59 u60 u61 u62 u63 u64 u65 u66 u67 u68 u69 u70 u71 u72 u73 u74 u75 u76 u77 u78 u79 u80 u81 u82 u83 u84 u85 u86 u87 u88 u89 u90 u91 u92 u93 u94 u95 u96 u97 u98 u99 u100 u101 u102 u103 u104 u105 u106 u107 u108 u109 u110 u111 u112 u113 u114 u115 u116 u117 u118 u119 u120 u121 u122 u123 u124 u125 u126 u127 u128 u129 u130 u131 u132 u133 u134 u135 u136 u137 u138 u139 u140 u141 u142 u143 u144 u145 u146 u147 u148 u149 u150 u151 u152 u153 u154 u155 u156 u157 u158 u159 u160 u161 u162 u163 u164 u165 u166 u167 u168 u169 u170 u171 u172 u173 u174 u175 u176 u177 u178 u179 u180 u181 u182 u183 u184 u185 u186 u187 u188 u189 u190 u191 u192 u193 u194 u195 u196 u197 u198 u199 u200 u201 u202 u203 u204 u205 u206 u207 u208 u209 u210 u211 u212 u213 u214 : Value} {W w1 w2 : World} {okA : Nat → Prop} {xs : List Pt} {k : Int} {ins calls rets : List ByteArray} {A1 A2 A3 : Option Addr} {c1 c2 c3 : Nat} {d : Nat} {B : Option Addr} (hA : ∀ q, okA q → q < W.heap.size) (hB0 : Below W.heap.size W w1) (hT1 : TxtIn W okA A1 ins c1) (hQ0 : PatAt w1 w2 okA (.slice B xs.length d) xs) (hx8 : xs.length ≤ 8)
 (hP : ∀ (c : List PanicEntry) (a a' : Act) (w : World), a'.defers = a.defers → Q (.panic c) a' w → Q (.panic c) a w) (hQ : ∀ (v47 v48 v49 v50 v51 v52 v53 v54 : Value) (A9 : Option Addr) (n9 c9 : Nat) (w9 : World), n9 = (xs ++ [(⟨2, pickS ins (wrap64 (k.tdiv 11)), [], []⟩ : Pt)]).length → PatAt w1 w9 okA (.slice A9 (xs ++ [(⟨2, pickS ins (wrap64 (k.tdiv 11)), [], []⟩ : Pt)]).length c9) (xs ++ [(⟨2, pickS ins (wrap64 (k.tdiv 11)), [], []⟩ : Pt)]) → Q .normal ⟨#[u0, .slice A1 ins.length c1, u2, u3, u4, u5, u6, u7, u8, .slice A9 n9 c9, u10, u11, .int .i64 k, u13, u14, u15, u16, u17, u18, u19, u20, u21, u22, u23, u24, u25, u26, u27, u28, u29, u30, u31, u32, u33, u34, u35, u36, u37, u38, u39, u40, u41, u42, u43, u44, u45, u46, v47, v48, v49, v50, v51, v52, v53, v54, u55, u56, u57, u58, u59, u60, u61, u62, u63, u64, u65, u66, u67, u68, u69, u70, u71, u72, u73, u74, u75, u76, u77, u78, u79, u80, u81, u82, u83, u84, u85, u86, u87, u88, u89, u90, u91, u92, u93, u94, u95, u96, u97, u98, u99, u100, u101, u102, u103, u104, u105, u106, u107, u108, u109, u110, u111, u112, u113, u114, u115, u116, u117, u118, u119, u120, u121, u122, u123, u124, u125, u126, u127, u128, u129, u130, u131, u132, u133, u134, u135, u136, u137, u138, u139, u140, u141, u142, u143, u144, u145, u146, u147, u148, u149, u150, u151, u152, u153, u154, u155, u156, u157, u158, u159, u160, u161, u162, u163, u164, u165, u166, u167, u168, u169, u170, u171, u172, u173, u174, u175, u176, u177, u178, u179, u180, u181, u182, u183, u184, u185, u186, u187, u188, u189, u190, u191, u192, u193, u194, u195, u196, u197, u198, u199, u200, u201, u202, u203, u204, u205, u206, u207, u208, u209, u210, u211, u212, u213, u214], []⟩ w9) :
 Code.wp Tryd.prog (Code.region 8 (opsOf Tryd.f17 8) false) Q ⟨#[u0, .slice A1 ins.length c1, u2, u3, u4, u5, u6, u7, u8, .slice B xs.length d, u10, u11, .int .i64 k, u13, u14, u15, u16, u17, u18, u19, u20, u21, u22, u23, u24, u25, u26, u27, u28, u29, u30, u31, u32, u33, u34, u35, u36, u37, u38, u39, u40, u41, u42, u43, u44, u45, u46, u47, u48, u49, u50, u51, u52, u53, u54, u55, u56, u57, u58, u59, u60, u61, u62, u63, u64, u65, u66, u67, u68, u69, u70, u71, u72, u73, u74, u75, u76, u77, u78, u79, u80, u81, u82, u83, u84, u85, u86, u87, u88, u89, u90, u91, u92, u93, u94, u95, u96, u97, u98, u99, u100, u101, u102, u103, u104, u105, u106, u107, u108, u109, u110, u111, u112, u113, u114, u115, u116, u117, u118, u119, u120, u121, u122, u123, u124, u125, u126, u127, u128, u129, u130, u131, u132, u133, u134, u135, u136, u137, u138, u139, u140, u141, u142, u143, u144, u145, u146, u147, u148, u149, u150, u151, u152, u153, u154, u155, u156, u157, u158, u159, u160, u161, u162, u163, u164, u165, u166, u167, u168, u169, u170, u171, u172, u173, u174, u175, u176, u177, u178, u179, u180, u181, u182, u183, u184, u185, u186, u187, u188, u189, u190, u191, u192, u193, u194, u195, u196, u197, u198, u199, u200, u201, u202, u203, u204, u205, u206, u207, u208, u209, u210, u211, u212, u213, u214], []⟩ w2 := by
 have HA := Aside0.mk hA
 have HB0 := Aside0.mk hB0
 have HT1 := Aside0.mk hT1
 have HQf := Aside0.mk hQ
 have HPQ := Aside0.mk hP
 clear hP hQ hA hB0 hT1
 conv in (opsOf _ _) => whnf
 rw [arr_mk]
 have HS2 := Aside0.mk hQ0
 have HM := Aside0.mk hx8
 clear hQ0 hx8
 go_wp2_with fail
 refine (pick_val ins A1 c1 _ _ HT1.out.p (Kd.F_max HT1.out.f) HT1.out.c).mono ?_
 rintro e wx ⟨rfl, hw⟩
 obtain rfl : w2 = wx := hw.symm
 have HQ := HS2
 have HFK : Aside0 (Kd.FK kPt w2 okA ⟨2, pickS ins (wrap64 (k.tdiv 11)), [], []⟩ [.int .i64 2, .slice (pickA ins A1 (wrap64 (k.tdiv 11))) (pickS ins (wrap64 (k.tdiv 11))).length (pickC ins c1 (wrap64 (k.tdiv 11))), .slice none 0 0, .slice none 0 0]) := ⟨k37_mkF w2 okA ⟨2, pickS ins (wrap64 (k.tdiv 11)), [], []⟩ (pick_le _ HT1.out.p HT1.out.c) (pick_F _ HT1.out.p HT1.out.c (Kd.F_below HT1.out.f (join_below HB0.out HQ.out.b))) (show 0 ≤ 0 from Nat.le_refl _) (Kd.F_nil _ _ _) (show 0 ≤ 0 from Nat.le_refl _) (Kd.F_nil _ _ _)⟩
 go_wp2_with ((with_reducible refine gate_builtin (b := .append) (xs := #[.tmp 47, .tmp 53]) rfl ?_); refine Kd.N_append kPt (w0 := w1) w1.heap.size ?hg (.tmp 47) (.tmp 53) 35 37 (.agg #[.int .i64 0, .slice none 0 0, .slice none 0 0, .slice none 0 0]) 80 rfl ?ht (by as_aux_lemma => kernel_rfl) rfl (by decide) (by decide) (.slice B xs.length d) xs (⟨2, pickS ins (wrap64 (k.tdiv 11)), [], []⟩) [.int .i64 2, .slice (pickA ins A1 (wrap64 (k.tdiv 11))) (pickS ins (wrap64 (k.tdiv 11))).length (pickC ins c1 (wrap64 (k.tdiv 11))), .slice none 0 0, .slice none 0 0] (fun q => okA q ∨ w1.heap.size ≤ q) (okA) rfl ?hx HFK.out (fun q hq => ⟨Or.inl hq, fun e => by have h1 := Kd.N_base HQ.out.n q e.symm; have h2 := HA.out q hq; have h3 := HB0.out.size; omega⟩) (fun q hq => Or.inr (Nat.le_trans HQ.out.b.size hq)) HQ.out.n HQ.out.b HQ.out.b.size (by have := HM.out; omega) ?_; (case hg => rfl); (case hx => first | rfl | simp [Act.eval]); (case ht => exact Tryd.underlying35); intro v9 w4 hN hB hgr hat; obtain ⟨A9, c9, hv9⟩ := Kd.N_slice hN; subst hv9; have HX := Aside0.mk (PatAt.mk hN hB); clear hN hB hgr hat)
 refine HQf.out _ _ _ _ _ _ _ _ A9 _ c9 w4 ?_ HX.out
 first | rfl | (rw [List.length_append]; rfl) | simp
end Go.Proofs.YthdfmbmbjpmlaaaDoor.Rn
end
section
set_option linter.unusedVariables false
set_option linter.unusedSimpArgs false
namespace Go.Proofs.YthdfmbmbjpmlaaaDoor.Rn
open Go Go.RowKit Go.Proofs.YthdfmbmbjpmlaaaDoorW.PrintWords Go.Proofs.YthdfmbmbjpmlaaaDoorW.PrintLast Go.Proofs.YthdfmbmbjpmlaaaDoorW.PrintMore
set_option maxHeartbeats 200000000 in
set_option maxRecDepth 100000 in
theorem pat_c13 {Q : Exit → Act → World → Prop} {u0 u4 u5 u6 u7 u8 u10 u14 u15 u16 u17 u18 u19 u20 u21 u22 u23 u24 u25 u26 u27 u28 u29 u30 u31 u32 u33 u34 u35 u36 u37 u38 u39 u40 u41 u42 u43 u44 u45 u46 u47 u48 u49 u50 u51 u52 u53 u54 u55 u56 u57 u58 u59 u60 u61 u62 u63 u64 u65 u66 u67 u68 u70 u71 u72 u73 u74 u75 u76 u77 u78 u79 u80 u81 u82 u83 u84 u85 u86 u87 u88 u89 u90 u91 u92 u93 u94 u95 u96 u97 u98 u99 u100 u101 u102 u103 u104 u105 u106 u107 u108 u109 u110 u111 u112 u113 u114 u115 u116 u117 u118 u119 u120 u121 u122 u123 u124 u125 u126 u127 u128 u129 u130 u131 u132 u133 u134 u135 u136 u137 u138 u139 u140 u141 u142 u143 u144 u145 u146 u147 u148 u149 u150 u151 u152 u153 u154 u155 u156 u157 u158 u159 u160 u161 u162 u163 u164 u165 u166 u167 u168 u169 u170 u171 u172 u173 u174 u175 u176 u177 u178 u179 u180 u181 u182 u183 u184 u185 u186 u187 u188 u189 u190 u191 u192 u193 u194 u195 u196 u197 u198 u199 u200 u201 u202 u203 u204 u205 u206 u207 u208 u209 u210 u211 u212 u213 u214 : Value} {W w1 w2 : World} {okA : Nat → Prop} {xs : List Pt} {k : Int} {ins calls rets : List ByteArray} {A1 A2 A3 : Option Addr} {c1 c2 c3 : Nat} {d : Nat} {B : Option Addr} {v : Nat} (hA : ∀ q, okA q → q < W.heap.size) (hB0 : Below W.heap.size W w1) (hT1 : TxtIn W okA A1 ins c1) (hT2 : TxtIn W okA A2 calls c2) (hT3 : TxtIn W okA A3 rets c3) (hS2 : PatAt w1 w2 okA (.slice B xs.length d) xs) (hV : IntKind.u64.wrap k % 11 = (v : Int)) (hv5 : 5 < v) (hv11 : v < 11) (hx0 : 0 < xs.length) (hM8 : xs.length + 1 ≤ 8)
 (hP : ∀ (c : List PanicEntry) (a a' : Act) (w : World), a'.defers = a.defers → Q (.panic c) a' w → Q (.panic c) a w) (hQ : ∀ (v92 v93 v94 v95 v96 v97 v98 v99 v100 v101 v102 v103 v104 v105 v106 v107 v108 v109 v110 v111 v112 v113 v114 v115 v116 v117 v118 v119 v120 v121 v122 v123 v124 v125 v126 v127 v128 v129 v130 v131 v132 v133 v134 v135 v136 v137 v138 v139 v140 v141 v142 v143 v144 v145 v146 v147 v148 v149 v150 v151 v152 v153 v154 v155 v156 v157 v158 v159 v160 v161 v162 v163 v164 v165 v166 v167 v168 v169 v170 v171 v172 v173 v174 v175 v176 v177 v178 v179 v180 v181 v182 v183 v184 v185 v186 v187 v188 v189 v190 v191 v192 v193 : Value) (A9 : Option Addr) (n9 c9 : Nat) (xs9 : List Pt) (w9 : World), n9 = xs9.length → patNext ins calls rets xs k = xs9 → xs9.length ≤ xs.length + 1 → PatAt w1 w9 okA (.slice A9 n9 c9) xs9 → Q .normal ⟨#[u0, .slice A1 ins.length c1, .slice A2 calls.length c2, .slice A3 rets.length c3, u4, u5, u6, u7, u8, .slice A9 n9 c9, u10, .int .i64 (xs.length : Int), .int .i64 k, .int .i64 (v : Int), u14, u15, u16, u17, u18, u19, u20, u21, u22, u23, u24, u25, u26, u27, u28, u29, u30, u31, u32, u33, u34, u35, u36, u37, u38, u39, u40, u41, u42, u43, u44, u45, u46, u47, u48, u49, u50, u51, u52, u53, u54, u55, u56, u57, u58, u59, u60, u61, u62, u63, u64, u65, u66, u67, u68, .bool false, u70, u71, u72, u73, u74, u75, u76, u77, u78, u79, u80, u81, u82, u83, u84, u85, u86, u87, u88, u89, u90, u91, v92, v93, v94, v95, v96, v97, v98, v99, v100, v101, v102, v103, v104, v105, v106, v107, v108, v109, v110, v111, v112, v113, v114, v115, v116, v117, v118, v119, v120, v121, v122, v123, v124, v125, v126, v127, v128, v129, v130, v131, v132, v133, v134, v135, v136, v137, v138, v139, v140, v141, v142, v143, v144, v145, v146, v147, v148, v149, v150, v151, v152, v153, v154, v155, v156, v157, v158, v159, v160, v161, v162, v163, v164, v165, v166, v167, v168, v169, v170, v171, v172, v173, v174, v175, v176, v177, v178, v179, v180, v181, v182, v183, v184, v185, v186, v187, v188, v189, v190, v191, v192, v193, u194, u195, u196, u197, u198, u199, u200, u201, u202, u203, u204, u205, u206, u207, u208, u209, u210, u211, u212, u213, u214], []⟩ w9) :
 Code.wp Tryd.prog (behindOf Tryd.f17 13) Q ⟨#[u0, .slice A1 ins.length c1, .slice A2 calls.length c2, .slice A3 rets.length c3, u4, u5, u6, u7, u8, .slice B xs.length d, u10, .int .i64 (xs.length : Int), .int .i64 k, .int .i64 (v : Int), u14, u15, u16, u17, u18, u19, u20, u21, u22, u23, u24, u25, u26, u27, u28, u29, u30, u31, u32, u33, u34, u35, u36, u37, u38, u39, u40, u41, u42, u43, u44, u45, u46, u47, u48, u49, u50, u51, u52, u53, u54, u55, u56, u57, u58, u59, u60, u61, u62, u63, u64, u65, u66, u67, u68, .bool false, u70, u71, u72, u73, u74, u75, u76, u77, u78, u79, u80, u81, u82, u83, u84, u85, u86, u87, u88, u89, u90, u91, u92, u93, u94, u95, u96, u97, u98, u99, u100, u101, u102, u103, u104, u105, u106, u107, u108, u109, u110, u111, u112, u113, u114, u115, u116, u117, u118, u119, u120, u121, u122, u123, u124, u125, u126, u127, u128, u129, u130, u131, u132, u133, u134, u135, u136, u137, u138, u139, u140, u141, u142, u143, u144, u145, u146, u147, u148, u149, u150, u151, u152, u153, u154, u155, u156, u157, u158, u159, u160, u161, u162, u163, u164, u165, u166, u167, u168, u169, u170, u171, u172, u173, u174, u175, u176, u177, u178, u179, u180, u181, u182, u183, u184, u185, u186, u187, u188, u189, u190, u191, u192, u193, u194, u195, u196, u197, u198, u199, u200, u201, u202, u203, u204, u205, u206, u207, u208, u209, u210, u211, u212, u213, u214], []⟩ w2 := by
 have HA := Aside0.mk hA
 have HB0 := Aside0.mk hB0
 have HT1 := Aside0.mk hT1
 have HT2 := Aside0.mk hT2
 have HT3 := Aside0.mk hT3
 have HQf := Aside0.mk hQ
 have HPQ := Aside0.mk hP
 have HS2 := Aside0.mk hS2
 have HV := Aside0.mk hV
 clear hP hQ hS2 hV hA hB0 hT1 hT2 hT3
 dsimp (config := { beta := false, eta := false, iota := false, proj := false, decide := false }) only
 conv in (behindOf _ _) => whnf
 have l0 : ((xs.length : Int) == 0) = false := beq_eq_false_iff_ne.2 (by omega)
 have l1 : decide (0 < (xs.length : Int)) = true := decide_eq_true (by omega)
 have l1n : decide (0 < xs.length) = true := decide_eq_true (by omega)
 go_upto_region 15 with (fail)
 go_cut [92] from 93 to 106 (fun vv w' => vv = .bool (decide (v = 6 ∨ (xs.length < 2 ∧ 7 < v))) ∧ w' = w2)
 case first =>
  have hc : v = 6 ∨ (¬ v = 6 ∧ xs.length < 2 ∧ 7 < v) ∨ (¬ v = 6 ∧ xs.length < 2 ∧ ¬ 7 < v) ∨ (¬ v = 6 ∧ ¬ xs.length < 2) := by omega
  rcases hc with hc | ⟨hc, hl, h7⟩ | ⟨hc, hl, h7⟩ | ⟨hc, hl⟩
  · skip
    have u6 : ((v : Int) == 6) = true := beq_iff_eq.2 (by omega)
    have HRES : Aside0 (decide (v = 6 ∨ (xs.length < 2 ∧ 7 < v)) = true) := ⟨decide_eq_true (by omega)⟩
    clear hc
    go_wp2
    go_meet
    case rel => exact ⟨congrArg Value.bool HRES.out.symm, rfl⟩
  · skip
    have u6 : ((v : Int) == 6) = false := beq_eq_false_iff_ne.2 (by omega)
    have t7 : decide (7 < (v : Int)) = true := decide_eq_true (by omega)
    have l2 : decide ((xs.length : Int) < 2) = true := decide_eq_true (by omega)
    have HRES : Aside0 (decide (v = 6 ∨ (xs.length < 2 ∧ 7 < v)) = true) := ⟨decide_eq_true (by omega)⟩
    clear hc hl h7
    go_wp2
    go_meet
    case rel => exact ⟨congrArg Value.bool HRES.out.symm, rfl⟩
  · skip
    have u6 : ((v : Int) == 6) = false := beq_eq_false_iff_ne.2 (by omega)
    have t7 : decide (7 < (v : Int)) = false := decide_eq_false (by omega)
    have l2 : decide ((xs.length : Int) < 2) = true := decide_eq_true (by omega)
    have HRES : Aside0 (decide (v = 6 ∨ (xs.length < 2 ∧ 7 < v)) = false) := ⟨decide_eq_false (by omega)⟩
    clear hc hl h7
    go_wp2
    go_meet
    case rel => exact ⟨congrArg Value.bool HRES.out.symm, rfl⟩
  · skip
    have u6 : ((v : Int) == 6) = false := beq_eq_false_iff_ne.2 (by omega)
    have l2 : decide ((xs.length : Int) < 2) = false := decide_eq_false (by omega)
    have HRES : Aside0 (decide (v = 6 ∨ (xs.length < 2 ∧ 7 < v)) = false) := ⟨decide_eq_false (by omega)⟩
    clear hc hl
    go_wp2
    go_meet
    case rel => exact ⟨congrArg Value.bool HRES.out.symm, rfl⟩
 obtain ⟨rfl, hcw⟩ := hcut
 rw [hcw]
 clear hcw
 by_cases hs : v = 6 ∨ (xs.length < 2 ∧ 7 < v)
 · skip
   rw [decide_eq_true hs]
   obtain ⟨j, hj⟩ : ∃ j, xs.length = j + 1 := ⟨xs.length - 1, by omega⟩
   obtain ⟨g2, d2, hf, _, hg2, _⟩ := Kd.N_form HS2.out.n (by omega)
   injection hf with hf1 hf2 hf3
   subst hf1 hf3
   have HQ : Aside0 (PatAt w1 w2 okA (.slice (some ⟨g2, 0, none⟩) (j + 1) d) xs) := ⟨hj ▸ HS2.out⟩
   have HJ := Aside0.mk hj
   have HG2 := Aside0.mk hg2
   have HP := Aside0.mk ((patNext_star ins calls rets xs k v HV.out (by omega) (by omega)).trans (by rw [hj, Nat.add_sub_cancel]))
   have hj8 : j + 1 ≤ 8 := by omega
   clear hg2 hj
   go_upto_region 16 with (fail)
   rw [HJ.out] at HQf ⊢
   refine pat_reg16 (k := k) (ins := ins) (calls := calls) (rets := rets) (A1 := A1) (A2 := A2) (A3 := A3) (c1 := c1) (c2 := c2) (c3 := c3) (d := d) (okA := okA) HA.out HB0.out HQ.out HJ.out hj8 (fun c a a' w hd h => HPQ.out c a a' w hd h) ?_
   intro v107 v108 v109 v110 v111 v112 v113 v114 v115 v116 v117 w9 hx9
   have HX := Aside0.mk hx9
   clear hx9
   first | skip | go_wp2
   refine HQf.out _ _ _ _ _ _ _ _ _ _ _ _ _ _ _ _ _ _ _ _ _ _ _ _ _ _ _ _ _ _ _ _ _ _ _ _ _ _ _ _ _ _ _ _ _ _ _ _ _ _ _ _ _ _ _ _ _ _ _ _ _ _ _ _ _ _ _ _ _ _ _ _ _ _ _ _ _ _ _ _ _ _ _ _ _ _ _ _ _ _ _ _ _ _ _ _ _ _ _ _ _ _ _ _ d (xs.set j ⟨7, [], [], [xs.getD j ptZ]⟩) w9 (by rw [List.length_set, HJ.out]) HP.out (by have := HJ.out; rw [List.length_set]; omega) HX.out
 · skip
   rw [decide_eq_false hs]
   go_upto_region 17 with (fail)
   by_cases hv7 : v = 7
   · skip
     have u7 : ((v : Int) == 7) = true := beq_iff_eq.2 (by omega)
     obtain ⟨j, hj⟩ : ∃ j, xs.length = j + 1 := ⟨xs.length - 1, by omega⟩
     obtain ⟨g2, d2, hf, _, hg2, _⟩ := Kd.N_form HS2.out.n (by omega)
     injection hf with hf1 hf2 hf3
     subst hf1 hf3
     have HQ : Aside0 (PatAt w1 w2 okA (.slice (some ⟨g2, 0, none⟩) (j + 1) d) xs) := ⟨hj ▸ HS2.out⟩
     have HJ := Aside0.mk hj
     have HG2 := Aside0.mk hg2
     have HP := Aside0.mk ((patNext_inw ins calls rets xs k v HV.out (by omega) hv7).trans (by rw [hj, Nat.add_sub_cancel]))
     have hj8 : j + 1 ≤ 8 := by omega
     clear hg2 hj hv7 hx0
     go_upto_region 18 with (fail)
     rw [HJ.out] at HQf ⊢
     refine pat_reg18 (k := k) (ins := ins) (calls := calls) (rets := rets) (A1 := A1) (A2 := A2) (A3 := A3) (c1 := c1) (c2 := c2) (c3 := c3) (d := d) (okA := okA) HA.out HB0.out HT2.out HT3.out HQ.out HJ.out hj8 (fun c a a' w hd h => HPQ.out c a a' w hd h) ?_
     intro v125 v126 v127 v128 v129 v130 v131 v132 v133 v134 v135 v136 v137 v138 v139 v140 v141 v142 v143 w9 hx9
     have HX := Aside0.mk hx9
     clear hx9
     first | skip | go_wp2
     refine HQf.out _ _ _ _ _ _ _ _ _ _ _ _ _ _ _ _ _ _ _ _ _ _ _ _ _ _ _ _ _ _ _ _ _ _ _ _ _ _ _ _ _ _ _ _ _ _ _ _ _ _ _ _ _ _ _ _ _ _ _ _ _ _ _ _ _ _ _ _ _ _ _ _ _ _ _ _ _ _ _ _ _ _ _ _ _ _ _ _ _ _ _ _ _ _ _ _ _ _ _ _ _ _ _ _ d (xs.set j ⟨3, pickS calls (wrap64 (k.tdiv 11)), pickS rets (wrap64 (k.tdiv 13)), [xs.getD j ptZ]⟩) w9 (by rw [List.length_set, HJ.out]) HP.out (by have := HJ.out; rw [List.length_set]; omega) HX.out
   · skip
     have u7 : ((v : Int) == 7) = false := beq_eq_false_iff_ne.2 (by omega)
     have hx1 : 1 < xs.length := by omega
     have l3 : decide (1 < (xs.length : Int)) = true := decide_eq_true (by omega)
     have l3n : decide (1 < xs.length) = true := decide_eq_true (by omega)
     go_upto_region 19 with (fail)
     by_cases hv8 : v < 10
     · skip
       have t10 : decide ((v : Int) < 10) = true := decide_eq_true (by omega)
       obtain ⟨j, hj⟩ : ∃ j, xs.length = j + 2 := ⟨xs.length - 2, by omega⟩
       obtain ⟨g2, d2, hf, _, hg2, _⟩ := Kd.N_form HS2.out.n (by omega)
       injection hf with hf1 hf2 hf3
       subst hf1 hf3
       have HQ : Aside0 (PatAt w1 w2 okA (.slice (some ⟨g2, 0, none⟩) (j + 2) d) xs) := ⟨hj ▸ HS2.out⟩
       have HJ := Aside0.mk hj
       have HG2 := Aside0.mk hg2
       have e1 : xs.length - 1 = j + 1 := by omega
       have e2 : xs.length - 2 = j := by omega
       have HP := Aside0.mk ((patNext_seq ins calls rets xs k v HV.out (by omega) (by omega)).trans (by rw [e1, e2]))
       have hj8 : j + 2 ≤ 8 := by omega
       clear hg2 e1 e2 hj
       go_upto_region 20 with (fail)
       rw [HJ.out] at HQf ⊢
       refine pat_reg20 (k := k) (ins := ins) (calls := calls) (rets := rets) (A1 := A1) (A2 := A2) (A3 := A3) (c1 := c1) (c2 := c2) (c3 := c3) (d := d) (okA := okA) HA.out HB0.out HQ.out HJ.out hj8 (fun c a a' w hd h => HPQ.out c a a' w hd h) ?_
       intro v151 v152 v153 v154 v155 v156 v157 v158 v159 v160 v161 v162 v163 v164 v165 v166 v167 v168 v169 v170 A9 n9 c9 w9 h9 hx9
       have HX := Aside0.mk hx9
       have HN9 := Aside0.mk h9
       clear hx9 h9
       first | skip | go_wp2
       obtain rfl := HN9.out
       refine HQf.out _ _ _ _ _ _ _ _ _ _ _ _ _ _ _ _ _ _ _ _ _ _ _ _ _ _ _ _ _ _ _ _ _ _ _ _ _ _ _ _ _ _ _ _ _ _ _ _ _ _ _ _ _ _ _ _ _ _ _ _ _ _ _ _ _ _ _ _ _ _ _ _ _ _ _ _ _ _ _ _ _ _ _ _ _ _ _ _ _ _ _ _ _ _ _ _ _ _ _ _ _ _ A9 _ c9 (xs.take j ++ [⟨5, [], [], [xs.getD j ptZ, xs.getD (j + 1) ptZ]⟩]) w9 rfl HP.out ?_ HX.out
       first | (have := HJ.out; simp; omega) | simp
     · skip
       have t10 : decide ((v : Int) < 10) = false := decide_eq_false (by omega)
       go_upto_region 21 with (fail)
       obtain ⟨j, hj⟩ : ∃ j, xs.length = j + 2 := ⟨xs.length - 2, by omega⟩
       obtain ⟨g2, d2, hf, _, hg2, _⟩ := Kd.N_form HS2.out.n (by omega)
       injection hf with hf1 hf2 hf3
       subst hf1 hf3
       have HQ : Aside0 (PatAt w1 w2 okA (.slice (some ⟨g2, 0, none⟩) (j + 2) d) xs) := ⟨hj ▸ HS2.out⟩
       have HJ := Aside0.mk hj
       have HG2 := Aside0.mk hg2
       have e1 : xs.length - 1 = j + 1 := by omega
       have e2 : xs.length - 2 = j := by omega
       have HP := Aside0.mk ((patNext_alt ins calls rets xs k v HV.out (by omega) (by omega)).trans (by rw [e1, e2]))
       have hj8 : j + 2 ≤ 8 := by omega
       clear hg2 e1 e2 hj
       go_upto_region 22 with (fail)
       rw [HJ.out] at HQf ⊢
       refine pat_reg22 (k := k) (ins := ins) (calls := calls) (rets := rets) (A1 := A1) (A2 := A2) (A3 := A3) (c1 := c1) (c2 := c2) (c3 := c3) (d := d) (okA := okA) HA.out HB0.out HQ.out HJ.out hj8 (fun c a a' w hd h => HPQ.out c a a' w hd h) ?_
       intro v174 v175 v176 v177 v178 v179 v180 v181 v182 v183 v184 v185 v186 v187 v188 v189 v190 v191 v192 v193 A9 n9 c9 w9 h9 hx9
       have HX := Aside0.mk hx9
       have HN9 := Aside0.mk h9
       clear hx9 h9
       first | skip | go_wp2
       obtain rfl := HN9.out
       refine HQf.out _ _ _ _ _ _ _ _ _ _ _ _ _ _ _ _ _ _ _ _ _ _ _ _ _ _ _ _ _ _ _ _ _ _ _ _ _ _ _ _ _ _ _ _ _ _ _ _ _ _ _ _ _ _ _ _ _ _ _ _ _ _ _ _ _ _ _ _ _ _ _ _ _ _ _ _ _ _ _ _ _ _ _ _ _ _ _ _ _ _ _ _ _ _ _ _ _ _ _ _ _ _ A9 _ c9 (xs.take j ++ [⟨6, [], [], [xs.getD j ptZ, xs.getD (j + 1) ptZ]⟩]) w9 rfl HP.out ?_ HX.out
       first | (have := HJ.out; simp; omega) | simp
end Go.Proofs.YthdfmbmbjpmlaaaDoor.Rn
end
