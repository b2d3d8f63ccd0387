/- texts of this claim, one behind the other. -/
import Derived.Test.YthdfmbmbjpmlaaaDoorMGPb
import Derived.OrdersHeld
import Derived.Deep.Draws
import Derived.Test.YthdfmbmbjpmlaaaDoorMGPa
import Derived.Shelf.SlSortCmp.WholeK
import Derived.Shelf.SlSortCmp.NoneTotal
import Derived.Shelf.SlicesG.Cmp
import Derived.Shelf.Sort.Plain
import Derived.Shelf.Slices.In.SortNone
import Derived.Shelf.Slices.Cells
import Derived.Shelf.SlGeneric
import Derived.Ground.SlsfProg
import Derived.Ground.SlgcProg
import Derived.Ground.NamesProg
import Derived.Ground.Names2Prog
import Derived.Test.YthdfmbmbjpmlaaaDoorProg
section
set_option linter.unusedVariables false
set_option linter.unusedSimpArgs false
namespace Go.Proofs.YthdfmbmbjpmlaaaDoor.Rn
open Go Go.RowKit Go.Proofs.YthdfmbmbjpmlaaaDoorW.PrintWords Go.Proofs.YthdfmbmbjpmlaaaDoorW.PrintLast Go.Proofs.YthdfmbmbjpmlaaaDoorW.PrintMore
set_option maxHeartbeats 4000000 in
set_option maxRecDepth 100000 in
theorem make_nil (W : World) :
 Calls Tryd.prog 6 #[.slice none 0 0] W fun e W' => ∃ v, e = .returned (.agg #[v, .slice none 0 0]) ∧ Kd.N kTok 50 W' W.heap.size (fun k => W.heap.size ≤ k) v madeT ∧ Below W.heap.size W W' := by
 go_enter Tryd.func6, Tryd.ntmps6
 go_wp2_with fail
 refine (one_any 99 _).mono ?_
 rintro e w1 ⟨a1, c1, A2, c2, X1, rfl, hl1, hC1, hX1, hC2, n1, n2, hb⟩
 have N1 : Aside0 (W.heap.size < a1) := ⟨by simp at n1; omega⟩
 clear n1 n2
 have HB1 := Aside0.mk (join_below (below1 W _) hb)
 have HBLK := Aside0.mk ((hb.block W.heap.size (by simp)).trans (blk_new W _))
 have H1 := Aside0.mk (And.intro hl1 (And.intro hC1 (And.intro hX1 hC2)))
 clear hl1 hC1 hC2 hX1 hb
 go_wp2_with fail
 refine (one_any 100 _).mono ?_
 rintro e w2 ⟨b1, d1, B2, d2, Y1, rfl, hl1, hC1, hX1, hC2, n1, n2, hb⟩
 have N2 : Aside0 (W.heap.size < b1) := ⟨by have := blk_lt HBLK.out; omega⟩
 clear n1 n2
 have HB2 := Aside0.mk (join_below HB1.out hb)
 have HB12 := Aside0.mk hb
 have H2 := Aside0.mk (And.intro hl1 (And.intro hC1 (And.intro hX1 hC2)))
 clear hl1 hC1 hC2 hX1 hb
 go_wp2
 obtain ⟨w3, hw3⟩ : ∃ x, (w2.alloc (Obj.cells #[.int .i64 2, .slice (some ⟨a1, 0, none⟩) 1 c1, .slice A2 0 c2] 48)).alloc (Obj.cells #[.int .i64 2, .slice (some ⟨b1, 0, none⟩) 1 d1, .slice B2 0 d2] 48) = x := ⟨_, rfl⟩
 have hnb : w3.heap[w2.heap.size + 1]? = some (.cells #[.int .i64 2, .slice (some ⟨b1, 0, none⟩) 1 d1, .slice B2 0 d2] 48 (0, 0)) := by
  rw [← hw3]
  exact second w2 _ _ _
 have hna : w3.heap[w2.heap.size]? = some (.cells #[.int .i64 2, .slice (some ⟨a1, 0, none⟩) 1 c1, .slice A2 0 c2] 48 (0, 0)) := by
  rw [← hw3]
  exact blk_alloc (blk_new _ _) _
 have HB3 : Aside0 (Below w2.heap.size w2 w3) := ⟨hw3 ▸ below_alloc (below1 _ _) _⟩
 have q0 : ∀ p : Later w3, p.wx.cell? ⟨w2.heap.size, 0, none⟩ = some (.int .i64 2) := fun p => cell_after p.below ((blk_cell hna 0).trans rfl)
 have q1 : ∀ p : Later w3, p.wx.cell? ⟨w2.heap.size, 1, none⟩ = some (.slice (some ⟨a1, 0, none⟩) 1 c1) := fun p => cell_after p.below ((blk_cell hna 1).trans rfl)
 have q2 : ∀ p : Later w3, p.wx.cell? ⟨w2.heap.size, 2, none⟩ = some (.slice A2 0 c2) := fun p => cell_after p.below ((blk_cell hna 2).trans rfl)
 have r0 : ∀ p : Later w3, p.wx.cell? ⟨w2.heap.size + 1, 0, none⟩ = some (.int .i64 2) := fun p => cell_after p.below ((blk_cell hnb 0).trans rfl)
 have r1 : ∀ p : Later w3, p.wx.cell? ⟨w2.heap.size + 1, 1, none⟩ = some (.slice (some ⟨b1, 0, none⟩) 1 d1) := fun p => cell_after p.below ((blk_cell hnb 1).trans rfl)
 have r2 : ∀ p : Later w3, p.wx.cell? ⟨w2.heap.size + 1, 2, none⟩ = some (.slice B2 0 d2) := fun p => cell_after p.below ((blk_cell hnb 2).trans rfl)
 have HW3 : Aside0 (W.heap.size < w3.heap.size) := ⟨blk_lt (blk_below (blk_below HBLK.out HB12.out) HB3.out)⟩
 obtain ⟨wd, hwd⟩ : ∃ x, w3.drew = x := ⟨_, rfl⟩
 have HLAT : Aside0 (Below w3.heap.size w3 wd) := ⟨hwd ▸ below_drew1 (Below.refl _ _)⟩
 rw [hw3]
 clear hw3 hna hnb
 have hund : undef = Value.tuple #[] := rfl
 refine wp_region_held (S := fun w' => ∃ p : Later w3, w' = p.wx) (by kernel_rfl) ?_
 change wpAnyH _ _ _ _ _ _ _ _ (World.drew _)
 rw [hwd]
 clear hwd
 ((refine takeQ (i := 2) (by rfl) (by kernel_rfl) (by kernel_rfl) (by kernel_rfl) ?_ ?_ ?_); (focus exact fun _ _ _ _ h => h); (focus exact ⟨⟨_, HLAT.out⟩, rfl⟩); intro K hK; go_simp; (with_reducible refine hK _ ?_); clear hK K)
 ((refine takeQ (i := 3) (by rfl) (by kernel_rfl) (by kernel_rfl) (by kernel_rfl) ?_ ?_ ?_); (focus exact fun _ _ _ _ h => h); (focus exact ⟨⟨_, HLAT.out⟩, rfl⟩); intro K hK; go_simp; (with_reducible refine hK _ ?_); clear hK K)
 ((refine takeQ (i := 7) (by rfl) (by kernel_rfl) (by kernel_rfl) (by kernel_rfl) ?_ ?_ ?_); (focus exact fun _ _ _ _ h => h); (focus exact ⟨⟨_, HLAT.out⟩, rfl⟩); intro K hK; go_simp; (with_reducible refine hK _ ?_); clear hK K)
 ((refine takeQ (i := 8) (by rfl) (by kernel_rfl) (by kernel_rfl) (by kernel_rfl) ?_ ?_ ?_); (focus exact fun _ _ _ _ h => h); (focus exact ⟨⟨_, HLAT.out⟩, rfl⟩); intro K hK; go_simp; (with_reducible refine hK _ ?_); clear hK K)
 ((refine takeQ (i := 9) (by rfl) (by kernel_rfl) (by kernel_rfl) (by kernel_rfl) ?_ ?_ ?_); (focus exact fun _ _ _ _ h => h); (focus exact ⟨⟨_, HLAT.out⟩, rfl⟩); intro K hK; go_simp; (with_reducible refine hK _ ?_); clear hK K)
 ((refine takeQ (i := 10) (by rfl) (by kernel_rfl) (by kernel_rfl) (by kernel_rfl) ?_ ?_ ?_); (focus exact fun _ _ _ _ h => h); (focus exact ⟨⟨_, HLAT.out⟩, rfl⟩); intro K hK; go_simp; (with_reducible refine hK _ ?_); clear hK K)
 clear q0 q1 q2 r0 r1 r2
 refine hall3 (i := 0) (j := 4) (k := 13) (by kernel_rfl) (by rfl) (by rfl) (by rfl) (fun K hK => ?_) (fun K hK => ?_) (fun K hK => ?_)
 · go_simp
   refine (one_any 97 _).mono ?_
   rintro e v1 ⟨a0, c0, E0, e0, X0, rfl, f1, f2, fX, f3, f4, f5, hb⟩
   have G0 := Aside0.mk f5
   have GW : Aside0 (W.heap.size < a0) := ⟨by have h1 := HW3.out; have h2 := HLAT.out.size; omega⟩
   have ST := Aside0.mk hb
   have HV1 : Aside0 (Below w3.heap.size w3 v1) := ⟨join_below HLAT.out hb⟩
   have F0 := Aside0.mk (And.intro f2 (And.intro fX (And.intro f3 f1)))
   clear f1 f2 f3 f4 f5 fX hb
   refine hK _ _ ⟨⟨_, HV1.out⟩, rfl⟩ ?_
   clear hK K ST
   ((refine takeQ (i := 1) (by rfl) (by kernel_rfl) (by kernel_rfl) (by kernel_rfl) ?_ ?_ ?_); (focus exact fun _ _ _ _ h => h); (focus exact ⟨⟨_, HV1.out⟩, rfl⟩); intro K hK; go_simp; (with_reducible refine hK _ ?_); clear hK K)
   refine hall2 (i := 4) (j := 13) (by kernel_rfl) (by rfl) (by rfl) (fun K hK => ?_) (fun K hK => ?_)
   · go_simp
     obtain ⟨v2, hv⟩ : ∃ x, v1.alloc (Obj.cells #[.int .i32 10, .int .i32 10, .int .i32 98, .int .i32 98] 56) = x := ⟨_, rfl⟩
     rw [hv]
     obtain ⟨g4, hg⟩ : ∃ x, v1.heap.size = x := ⟨_, rfl⟩
     rw [hg]
     have F4 : Aside0 (v2.heap[g4]? = some (.cells #[.int .i32 10, .int .i32 10, .int .i32 98, .int .i32 98] 56 (0, 0))) := ⟨by rw [← hv, ← hg]; exact blk_new _ _⟩
     have GW4 : Aside0 (W.heap.size < g4) := ⟨by have h1 := HW3.out; have h2 := HV1.out.size; omega⟩
     have ST : Aside0 (Below v1.heap.size v1 v2) := ⟨hv ▸ below1 _ _⟩
     have HV2 : Aside0 (Below w3.heap.size w3 v2) := ⟨join_below HV1.out ST.out⟩
     clear hv hg
     have G0 := Aside0.mk (Nat.lt_of_lt_of_le G0.out ST.out.size)
     have F0 := Aside0.mk (And.intro (Kd.F_below F0.out.1 ST.out) (And.intro (blk_below F0.out.2.1 ST.out) F0.out.2.2))
     refine hK _ _ ⟨⟨_, HV2.out⟩, rfl⟩ ?_
     clear hK K ST
     ((refine takeQ (i := 5) (by rfl) (by kernel_rfl) (by kernel_rfl) (by kernel_rfl) ?_ ?_ ?_); (focus exact fun _ _ _ _ h => h); (focus exact ⟨⟨_, HV2.out⟩, rfl⟩); intro K hK; go_simp; (with_reducible refine hK _ ?_); clear hK K)
     ((refine takeQ (i := 6) (by rfl) (by kernel_rfl) (by kernel_rfl) (by kernel_rfl) ?_ ?_ ?_); (focus exact fun _ _ _ _ h => h); (focus exact ⟨⟨_, HV2.out⟩, rfl⟩); intro K hK; go_simp; (with_reducible refine hK _ ?_); clear hK K)
     refine hall2 (i := 11) (j := 13) (by kernel_rfl) (by rfl) (by rfl) (fun K hK => ?_) (fun K hK => ?_)
     · go_simp
       obtain ⟨v3, hv⟩ : ∃ x, v2.alloc (Obj.cells #[.string ⟨#[97]⟩, .int .i64 0, .int .i64 1, .int .i64 2, .slice (some ⟨a0, 0, none⟩) 1 c0, .slice E0 0 e0, .string ⟨#[98]⟩, .int .i64 0, .int .i64 2, .int .i64 2, .slice (some ⟨g4, 0, none⟩) 2 2, .slice none 0 0, .string ⟨#[111]⟩, .int .i64 1, .int .i64 3, .int .i64 2, .slice (some ⟨a1, 0, none⟩) 1 c1, .slice A2 0 c2, .string ⟨#[99]⟩, .int .i64 2, .int .i64 4, .int .i64 2, .slice (some ⟨b1, 0, none⟩) 1 d1, .slice B2 0 d2] 50) = x := ⟨_, rfl⟩
       rw [hv]
       obtain ⟨gR, hg⟩ : ∃ x, v2.heap.size = x := ⟨_, rfl⟩
       rw [hg]
       have F11 : Aside0 (v3.heap[gR]? = some (.cells #[.string ⟨#[97]⟩, .int .i64 0, .int .i64 1, .int .i64 2, .slice (some ⟨a0, 0, none⟩) 1 c0, .slice E0 0 e0, .string ⟨#[98]⟩, .int .i64 0, .int .i64 2, .int .i64 2, .slice (some ⟨g4, 0, none⟩) 2 2, .slice none 0 0, .string ⟨#[111]⟩, .int .i64 1, .int .i64 3, .int .i64 2, .slice (some ⟨a1, 0, none⟩) 1 c1, .slice A2 0 c2, .string ⟨#[99]⟩, .int .i64 2, .int .i64 4, .int .i64 2, .slice (some ⟨b1, 0, none⟩) 1 d1, .slice B2 0 d2] 50 (0, 0))) := ⟨by rw [← hv, ← hg]; exact blk_new _ _⟩
       have GW11 : Aside0 (W.heap.size < gR) := ⟨by have h1 := HW3.out; have h2 := HV2.out.size; omega⟩
       have ST : Aside0 (Below v2.heap.size v2 v3) := ⟨hv ▸ below1 _ _⟩
       have HV3 : Aside0 (Below w3.heap.size w3 v3) := ⟨join_below HV2.out ST.out⟩
       clear hv hg
       have G0 := Aside0.mk (Nat.lt_of_lt_of_le G0.out ST.out.size)
       have F0 := Aside0.mk (And.intro (Kd.F_below F0.out.1 ST.out) (And.intro (blk_below F0.out.2.1 ST.out) F0.out.2.2))
       have F4 := Aside0.mk (blk_below F4.out ST.out)
       refine hK _ _ ⟨⟨_, HV3.out⟩, rfl⟩ ?_
       clear hK K ST
       ((refine takeQ (i := 12) (by rfl) (by kernel_rfl) (by kernel_rfl) (by kernel_rfl) ?_ ?_ ?_); (focus exact fun _ _ _ _ h => h); (focus exact ⟨⟨_, HV3.out⟩, rfl⟩); intro K hK; go_simp; (with_reducible refine hK _ ?_); clear hK K)
       refine hall1 (i := 13) (by kernel_rfl) (by rfl) (fun K hK => ?_)
       go_simp
       obtain ⟨v4, hv⟩ : ∃ x, v3.alloc (Obj.cells #[.slice none 0 0, .slice none 0 0] 26) = x := ⟨_, rfl⟩
       rw [hv]
       obtain ⟨g13, hg⟩ : ∃ x, v3.heap.size = x := ⟨_, rfl⟩
       rw [hg]
       have F13 : Aside0 (v4.heap[g13]? = some (.cells #[.slice none 0 0, .slice none 0 0] 26 (0, 0))) := ⟨by rw [← hv, ← hg]; exact blk_new _ _⟩
       have GW13 : Aside0 (W.heap.size < g13) := ⟨by have h1 := HW3.out; have h2 := HV3.out.size; omega⟩
       have ST : Aside0 (Below v3.heap.size v3 v4) := ⟨hv ▸ below1 _ _⟩
       have HV4 : Aside0 (Below w3.heap.size w3 v4) := ⟨join_below HV3.out ST.out⟩
       have FN : Aside0 (a0 ≠ g13) := ⟨by have := G0.out; omega⟩
       have HGE : Aside0 (w3.heap.size ≤ g13) := ⟨hg ▸ HV3.out.size⟩
       clear hv hg
       have G0 := Aside0.mk (Nat.lt_of_lt_of_le G0.out ST.out.size)
       have F0 := Aside0.mk (And.intro (Kd.F_below F0.out.1 ST.out) (And.intro (blk_below F0.out.2.1 ST.out) F0.out.2.2))
       have F4 := Aside0.mk (blk_below F4.out ST.out)
       have F11 := Aside0.mk (blk_below F11.out ST.out)
       refine hK _ _ ⟨⟨_, HV4.out⟩, rfl⟩ ?_
       clear hK K ST
       have ne4 : g4 ≠ g13 := fun e => by have h := F4.out; rw [e, F13.out] at h; simp at h
       have neR : gR ≠ g13 := fun e => by have h := F11.out; rw [e, F13.out] at h; simp at h
       have y0 : World.cell? v4 ⟨g13, 0, none⟩ = some (.slice none 0 0) := (blk_cell F13.out 0).trans rfl
       have y1 : World.cell? v4 ⟨g13, 1, none⟩ = some (.slice none 0 0) := (blk_cell F13.out 1).trans rfl
       have z0 := blk_frozen F13.out 0
       have z1 := blk_frozen F13.out 1
       have hp1 := blk_put F13.out 0 (.slice (some ⟨gR, 0, none⟩) 4 4) rfl
       have y2 : (World.setCell v4 ⟨g13, 0, none⟩ (.slice (some ⟨gR, 0, none⟩) 4 4)).cell? ⟨g13, 1, none⟩ = some (.slice none 0 0) := (blk_cell hp1 1).trans rfl
       have z2 := blk_frozen hp1 1
       have hp2 := blk_put hp1 1 (.slice none 0 0) rfl
       obtain ⟨uf, huf⟩ : ∃ x, (World.setCell v4 ⟨g13, 0, none⟩ (.slice (some ⟨gR, 0, none⟩) 4 4)).setCell ⟨g13, 1, none⟩ (.slice none 0 0) = x := ⟨_, rfl⟩
       have HBF : Aside0 (Below w3.heap.size w3 uf) := ⟨huf ▸ (HV4.out.setCell HGE.out _).setCell HGE.out _⟩
       have f11 := blk_far (p := ⟨g13, 1, none⟩) (blk_far (p := ⟨g13, 0, none⟩) F11.out neR (.slice (some ⟨gR, 0, none⟩) 4 4)) neR (.slice none 0 0)
       have f4 := blk_far (p := ⟨g13, 1, none⟩) (blk_far (p := ⟨g13, 0, none⟩) F4.out ne4 (.slice (some ⟨gR, 0, none⟩) 4 4)) ne4 (.slice none 0 0)
       have f0 := Kd.F_far (p := ⟨g13, 1, none⟩) (Kd.F_far (p := ⟨g13, 0, none⟩) F0.out.1 (fun k hk => by rw [hk]; exact FN.out) (.slice (some ⟨gR, 0, none⟩) 4 4)) (fun k hk => by rw [hk]; exact FN.out) (.slice none 0 0)
       have fx := blk_far (p := ⟨g13, 1, none⟩) (blk_far (p := ⟨g13, 0, none⟩) F0.out.2.1 FN.out (.slice (some ⟨gR, 0, none⟩) 4 4)) FN.out (.slice none 0 0)
       rw [huf] at hp2 f11 f4 f0 fx
       have HF := Aside0.mk hp2
       have HX := Aside0.mk (And.intro f11 (And.intro f4 (And.intro f0 (And.intro fx F0.out.2.2))))
       clear hp2 f11 f4 f0 fx ne4 neR hp1
       refine hall1 (i := 14) (by kernel_rfl) (by rfl) (fun K hK => ?_)
       go_simp
       clear huf y0 y1 y2 z0 z1 z2 F0 F4 F11 F13
       refine hK _ _ ⟨⟨_, HBF.out⟩, rfl⟩ ?_
       clear hK K
       refine wpAnyH_done (by kernel_rfl) ?_ _
       go_wp2
       obtain ⟨wl, hwl⟩ : ∃ x, (uf.alloc (Obj.cells #[.string ⟨#[111]⟩] 9)).alloc (Obj.cells #[.string ⟨#[99]⟩] 9) = x := ⟨_, rfl⟩
       rw [hwl]
       have ST : Aside0 (Below uf.heap.size uf wl) := ⟨hwl ▸ below_alloc (below1 _ _) _⟩
       clear hwl
       go_loopw [8] (fun i w' => i = .int .i64 0 ∧ w' = wl) (fun _ _ => 0)
       case atStart => exact ⟨rfl, rfl⟩
       case round =>
        obtain ⟨rfl, hwr⟩ := hrel
        rw [hwr]
        clear hwr
        have hg := blk_below HF.out ST.out
        have y0 : wl.cell? ⟨g13, 0, none⟩ = some (.slice (some ⟨gR, 0, none⟩) 4 4) := (blk_cell hg 0).trans rfl
        have y1 : wl.cell? ⟨g13, 1, none⟩ = some (.slice none 0 0) := (blk_cell hg 1).trans rfl
        have hw := blk_below (blk_below (blk_below (blk_below HBLK.out HB12.out) HB3.out) HBF.out) ST.out
        have x0 : wl.cell? ⟨W.heap.size, 0, none⟩ = some (.slice none 0 0) := (blk_cell hw 0).trans rfl
        have x1 : wl.cell? ⟨W.heap.size, 1, none⟩ = some (.slice none 0 0) := (blk_cell hw 1).trans rfl
        have z0 := blk_frozen hw 0
        have z1 := blk_frozen hw 1
        have hp1 := blk_put hw 0 (.slice (some ⟨gR, 0, none⟩) 4 4) rfl
        have x2 : (wl.setCell ⟨W.heap.size, 0, none⟩ (.slice (some ⟨gR, 0, none⟩) 4 4)).cell? ⟨W.heap.size, 1, none⟩ = some (.slice none 0 0) := (blk_cell hp1 1).trans rfl
        have z2 := blk_frozen hp1 1
        have HP2 := Aside0.mk (blk_put hp1 1 (.slice none 0 0) rfl)
        clear hg hw hp1
        go_wp2
        refine bodyPost_ret (results_cell_row rfl _ _ W.heap.size 26 #[.slice (some ⟨gR, 0, none⟩) 4 4, .slice none 0 0] (0, 0) _ rfl HP2.out Tryd.underlying26 rfl (by kernel_rfl)) rfl ?_
        have hx := HX.out
        have WN : ∀ g : Nat, W.heap.size < g → g ≠ W.heap.size := fun g h => by omega
        have k1 := blk_far (p := ⟨W.heap.size, 1, none⟩) (blk_far (p := ⟨W.heap.size, 0, none⟩) (blk_below hx.1 ST.out) (WN _ GW11.out) (.slice (some ⟨gR, 0, none⟩) 4 4)) (WN _ GW11.out) (.slice none 0 0)
        have k2 := blk_far (p := ⟨W.heap.size, 1, none⟩) (blk_far (p := ⟨W.heap.size, 0, none⟩) (blk_below hx.2.1 ST.out) (WN _ GW4.out) (.slice (some ⟨gR, 0, none⟩) 4 4)) (WN _ GW4.out) (.slice none 0 0)
        have k3 := f_put (m := 4) (c := 4) GW.out ⟨gR, 0, none⟩ (Kd.F_below hx.2.2.1 ST.out)
        have c3 := blk_far (p := ⟨W.heap.size, 1, none⟩) (blk_far (p := ⟨W.heap.size, 0, none⟩) (blk_below hx.2.2.2.1 ST.out) (WN _ GW.out) (.slice (some ⟨gR, 0, none⟩) 4 4)) (WN _ GW.out) (.slice none 0 0)
        have BB := join_below HB3.out (join_below HBF.out ST.out)
        have k4 := f_put (m := 4) (c := 4) N1.out ⟨gR, 0, none⟩ (Kd.F_below (Kd.F_below H1.out.2.1 HB12.out) BB)
        have c4 := blk_far (p := ⟨W.heap.size, 1, none⟩) (blk_far (p := ⟨W.heap.size, 0, none⟩) (blk_below (blk_below H1.out.2.2.1 HB12.out) BB) (WN _ N1.out) (.slice (some ⟨gR, 0, none⟩) 4 4)) (WN _ N1.out) (.slice none 0 0)
        have k5 := f_put (m := 4) (c := 4) N2.out ⟨gR, 0, none⟩ (Kd.F_below H2.out.2.1 BB)
        have c5 := blk_far (p := ⟨W.heap.size, 1, none⟩) (blk_far (p := ⟨W.heap.size, 0, none⟩) (blk_below H2.out.2.2.1 BB) (WN _ N2.out) (.slice (some ⟨gR, 0, none⟩) 4 4)) (WN _ N2.out) (.slice none 0 0)
        exact ⟨_, rfl, made_row k1 (range_new k2) hx.2.2.2.2.2 k3 (fun _ => re_none hx.2.2.2.2.1) H1.out.1 k4 (fun _ => re_none H1.out.2.2.2) H2.out.1 k5 (fun _ => re_none H2.out.2.2.2) (Nat.le_of_lt GW11.out) ⟨Nat.le_of_lt GW.out, ne_type c3 k1 (by decide)⟩ ⟨Nat.le_of_lt N1.out, ne_type c4 k1 (by decide)⟩ ⟨Nat.le_of_lt N2.out, ne_type c5 k1 (by decide)⟩ ⟨Nat.le_of_lt GW4.out, ne_type k2 k1 (by decide)⟩, ((join_below HB2.out (join_below HB3.out (join_below HBF.out ST.out))).setCell (Nat.le_refl _) _).setCell (Nat.le_refl _) _⟩
     · go_simp
       obtain ⟨v3, hv⟩ : ∃ x, v2.alloc (Obj.cells #[.slice none 0 0, .slice none 0 0] 26) = x := ⟨_, rfl⟩
       rw [hv]
       obtain ⟨g13, hg⟩ : ∃ x, v2.heap.size = x := ⟨_, rfl⟩
       rw [hg]
       have F13 : Aside0 (v3.heap[g13]? = some (.cells #[.slice none 0 0, .slice none 0 0] 26 (0, 0))) := ⟨by rw [← hv, ← hg]; exact blk_new _ _⟩
       have GW13 : Aside0 (W.heap.size < g13) := ⟨by have h1 := HW3.out; have h2 := HV2.out.size; omega⟩
       have ST : Aside0 (Below v2.heap.size v2 v3) := ⟨hv ▸ below1 _ _⟩
       have HV3 : Aside0 (Below w3.heap.size w3 v3) := ⟨join_below HV2.out ST.out⟩
       have FN : Aside0 (a0 ≠ g13) := ⟨by have := G0.out; omega⟩
       have HGE : Aside0 (w3.heap.size ≤ g13) := ⟨hg ▸ HV2.out.size⟩
       clear hv hg
       have G0 := Aside0.mk (Nat.lt_of_lt_of_le G0.out ST.out.size)
       have F0 := Aside0.mk (And.intro (Kd.F_below F0.out.1 ST.out) (And.intro (blk_below F0.out.2.1 ST.out) F0.out.2.2))
       have F4 := Aside0.mk (blk_below F4.out ST.out)
       refine hK _ _ ⟨⟨_, HV3.out⟩, rfl⟩ ?_
       clear hK K ST
       refine hall1 (i := 11) (by kernel_rfl) (by rfl) (fun K hK => ?_)
       go_simp
       obtain ⟨v4, hv⟩ : ∃ x, v3.alloc (Obj.cells #[.string ⟨#[97]⟩, .int .i64 0, .int .i64 1, .int .i64 2, .slice (some ⟨a0, 0, none⟩) 1 c0, .slice E0 0 e0, .string ⟨#[98]⟩, .int .i64 0, .int .i64 2, .int .i64 2, .slice (some ⟨g4, 0, none⟩) 2 2, .slice none 0 0, .string ⟨#[111]⟩, .int .i64 1, .int .i64 3, .int .i64 2, .slice (some ⟨a1, 0, none⟩) 1 c1, .slice A2 0 c2, .string ⟨#[99]⟩, .int .i64 2, .int .i64 4, .int .i64 2, .slice (some ⟨b1, 0, none⟩) 1 d1, .slice B2 0 d2] 50) = x := ⟨_, rfl⟩
       rw [hv]
       obtain ⟨gR, hg⟩ : ∃ x, v3.heap.size = x := ⟨_, rfl⟩
       rw [hg]
       have F11 : Aside0 (v4.heap[gR]? = some (.cells #[.string ⟨#[97]⟩, .int .i64 0, .int .i64 1, .int .i64 2, .slice (some ⟨a0, 0, none⟩) 1 c0, .slice E0 0 e0, .string ⟨#[98]⟩, .int .i64 0, .int .i64 2, .int .i64 2, .slice (some ⟨g4, 0, none⟩) 2 2, .slice none 0 0, .string ⟨#[111]⟩, .int .i64 1, .int .i64 3, .int .i64 2, .slice (some ⟨a1, 0, none⟩) 1 c1, .slice A2 0 c2, .string ⟨#[99]⟩, .int .i64 2, .int .i64 4, .int .i64 2, .slice (some ⟨b1, 0, none⟩) 1 d1, .slice B2 0 d2] 50 (0, 0))) := ⟨by rw [← hv, ← hg]; exact blk_new _ _⟩
       have GW11 : Aside0 (W.heap.size < gR) := ⟨by have h1 := HW3.out; have h2 := HV3.out.size; omega⟩
       have ST : Aside0 (Below v3.heap.size v3 v4) := ⟨hv ▸ below1 _ _⟩
       have HV4 : Aside0 (Below w3.heap.size w3 v4) := ⟨join_below HV3.out ST.out⟩
       clear hv hg
       have G0 := Aside0.mk (Nat.lt_of_lt_of_le G0.out ST.out.size)
       have F0 := Aside0.mk (And.intro (Kd.F_below F0.out.1 ST.out) (And.intro (blk_below F0.out.2.1 ST.out) F0.out.2.2))
       have F4 := Aside0.mk (blk_below F4.out ST.out)
       have F13 := Aside0.mk (blk_below F13.out ST.out)
       refine hK _ _ ⟨⟨_, HV4.out⟩, rfl⟩ ?_
       clear hK K ST
       ((refine takeQ (i := 12) (by rfl) (by kernel_rfl) (by kernel_rfl) (by kernel_rfl) ?_ ?_ ?_); (focus exact fun _ _ _ _ h => h); (focus exact ⟨⟨_, HV4.out⟩, rfl⟩); intro K hK; go_simp; (with_reducible refine hK _ ?_); clear hK K)
       have ne4 : g4 ≠ g13 := fun e => by have h := F4.out; rw [e, F13.out] at h; simp at h
       have neR : gR ≠ g13 := fun e => by have h := F11.out; rw [e, F13.out] at h; simp at h
       have y0 : World.cell? v4 ⟨g13, 0, none⟩ = some (.slice none 0 0) := (blk_cell F13.out 0).trans rfl
       have y1 : World.cell? v4 ⟨g13, 1, none⟩ = some (.slice none 0 0) := (blk_cell F13.out 1).trans rfl
       have z0 := blk_frozen F13.out 0
       have z1 := blk_frozen F13.out 1
       have hp1 := blk_put F13.out 0 (.slice (some ⟨gR, 0, none⟩) 4 4) rfl
       have y2 : (World.setCell v4 ⟨g13, 0, none⟩ (.slice (some ⟨gR, 0, none⟩) 4 4)).cell? ⟨g13, 1, none⟩ = some (.slice none 0 0) := (blk_cell hp1 1).trans rfl
       have z2 := blk_frozen hp1 1
       have hp2 := blk_put hp1 1 (.slice none 0 0) rfl
       obtain ⟨uf, huf⟩ : ∃ x, (World.setCell v4 ⟨g13, 0, none⟩ (.slice (some ⟨gR, 0, none⟩) 4 4)).setCell ⟨g13, 1, none⟩ (.slice none 0 0) = x := ⟨_, rfl⟩
       have HBF : Aside0 (Below w3.heap.size w3 uf) := ⟨huf ▸ (HV4.out.setCell HGE.out _).setCell HGE.out _⟩
       have f11 := blk_far (p := ⟨g13, 1, none⟩) (blk_far (p := ⟨g13, 0, none⟩) F11.out neR (.slice (some ⟨gR, 0, none⟩) 4 4)) neR (.slice none 0 0)
       have f4 := blk_far (p := ⟨g13, 1, none⟩) (blk_far (p := ⟨g13, 0, none⟩) F4.out ne4 (.slice (some ⟨gR, 0, none⟩) 4 4)) ne4 (.slice none 0 0)
       have f0 := Kd.F_far (p := ⟨g13, 1, none⟩) (Kd.F_far (p := ⟨g13, 0, none⟩) F0.out.1 (fun k hk => by rw [hk]; exact FN.out) (.slice (some ⟨gR, 0, none⟩) 4 4)) (fun k hk => by rw [hk]; exact FN.out) (.slice none 0 0)
       have fx := blk_far (p := ⟨g13, 1, none⟩) (blk_far (p := ⟨g13, 0, none⟩) F0.out.2.1 FN.out (.slice (some ⟨gR, 0, none⟩) 4 4)) FN.out (.slice none 0 0)
       rw [huf] at hp2 f11 f4 f0 fx
       have HF := Aside0.mk hp2
       have HX := Aside0.mk (And.intro f11 (And.intro f4 (And.intro f0 (And.intro fx F0.out.2.2))))
       clear hp2 f11 f4 f0 fx ne4 neR hp1
       refine hall1 (i := 14) (by kernel_rfl) (by rfl) (fun K hK => ?_)
       go_simp
       clear huf y0 y1 y2 z0 z1 z2 F0 F4 F11 F13
       refine hK _ _ ⟨⟨_, HBF.out⟩, rfl⟩ ?_
       clear hK K
       refine wpAnyH_done (by kernel_rfl) ?_ _
       go_wp2
       obtain ⟨wl, hwl⟩ : ∃ x, (uf.alloc (Obj.cells #[.string ⟨#[111]⟩] 9)).alloc (Obj.cells #[.string ⟨#[99]⟩] 9) = x := ⟨_, rfl⟩
       rw [hwl]
       have ST : Aside0 (Below uf.heap.size uf wl) := ⟨hwl ▸ below_alloc (below1 _ _) _⟩
       clear hwl
       go_loopw [8] (fun i w' => i = .int .i64 0 ∧ w' = wl) (fun _ _ => 0)
       case atStart => exact ⟨rfl, rfl⟩
       case round =>
        obtain ⟨rfl, hwr⟩ := hrel
        rw [hwr]
        clear hwr
        have hg := blk_below HF.out ST.out
        have y0 : wl.cell? ⟨g13, 0, none⟩ = some (.slice (some ⟨gR, 0, none⟩) 4 4) := (blk_cell hg 0).trans rfl
        have y1 : wl.cell? ⟨g13, 1, none⟩ = some (.slice none 0 0) := (blk_cell hg 1).trans rfl
        have hw := blk_below (blk_below (blk_below (blk_below HBLK.out HB12.out) HB3.out) HBF.out) ST.out
        have x0 : wl.cell? ⟨W.heap.size, 0, none⟩ = some (.slice none 0 0) := (blk_cell hw 0).trans rfl
        have x1 : wl.cell? ⟨W.heap.size, 1, none⟩ = some (.slice none 0 0) := (blk_cell hw 1).trans rfl
        have z0 := blk_frozen hw 0
        have z1 := blk_frozen hw 1
        have hp1 := blk_put hw 0 (.slice (some ⟨gR, 0, none⟩) 4 4) rfl
        have x2 : (wl.setCell ⟨W.heap.size, 0, none⟩ (.slice (some ⟨gR, 0, none⟩) 4 4)).cell? ⟨W.heap.size, 1, none⟩ = some (.slice none 0 0) := (blk_cell hp1 1).trans rfl
        have z2 := blk_frozen hp1 1
        have HP2 := Aside0.mk (blk_put hp1 1 (.slice none 0 0) rfl)
        clear hg hw hp1
        go_wp2
        refine bodyPost_ret (results_cell_row rfl _ _ W.heap.size 26 #[.slice (some ⟨gR, 0, none⟩) 4 4, .slice none 0 0] (0, 0) _ rfl HP2.out Tryd.underlying26 rfl (by kernel_rfl)) rfl ?_
        have hx := HX.out
        have WN : ∀ g : Nat, W.heap.size < g → g ≠ W.heap.size := fun g h => by omega
        have k1 := blk_far (p := ⟨W.heap.size, 1, none⟩) (blk_far (p := ⟨W.heap.size, 0, none⟩) (blk_below hx.1 ST.out) (WN _ GW11.out) (.slice (some ⟨gR, 0, none⟩) 4 4)) (WN _ GW11.out) (.slice none 0 0)
        have k2 := blk_far (p := ⟨W.heap.size, 1, none⟩) (blk_far (p := ⟨W.heap.size, 0, none⟩) (blk_below hx.2.1 ST.out) (WN _ GW4.out) (.slice (some ⟨gR, 0, none⟩) 4 4)) (WN _ GW4.out) (.slice none 0 0)
        have k3 := f_put (m := 4) (c := 4) GW.out ⟨gR, 0, none⟩ (Kd.F_below hx.2.2.1 ST.out)
        have c3 := blk_far (p := ⟨W.heap.size, 1, none⟩) (blk_far (p := ⟨W.heap.size, 0, none⟩) (blk_below hx.2.2.2.1 ST.out) (WN _ GW.out) (.slice (some ⟨gR, 0, none⟩) 4 4)) (WN _ GW.out) (.slice none 0 0)
        have BB := join_below HB3.out (join_below HBF.out ST.out)
        have k4 := f_put (m := 4) (c := 4) N1.out ⟨gR, 0, none⟩ (Kd.F_below (Kd.F_below H1.out.2.1 HB12.out) BB)
        have c4 := blk_far (p := ⟨W.heap.size, 1, none⟩) (blk_far (p := ⟨W.heap.size, 0, none⟩) (blk_below (blk_below H1.out.2.2.1 HB12.out) BB) (WN _ N1.out) (.slice (some ⟨gR, 0, none⟩) 4 4)) (WN _ N1.out) (.slice none 0 0)
        have k5 := f_put (m := 4) (c := 4) N2.out ⟨gR, 0, none⟩ (Kd.F_below H2.out.2.1 BB)
        have c5 := blk_far (p := ⟨W.heap.size, 1, none⟩) (blk_far (p := ⟨W.heap.size, 0, none⟩) (blk_below H2.out.2.2.1 BB) (WN _ N2.out) (.slice (some ⟨gR, 0, none⟩) 4 4)) (WN _ N2.out) (.slice none 0 0)
        exact ⟨_, rfl, made_row k1 (range_new k2) hx.2.2.2.2.2 k3 (fun _ => re_none hx.2.2.2.2.1) H1.out.1 k4 (fun _ => re_none H1.out.2.2.2) H2.out.1 k5 (fun _ => re_none H2.out.2.2.2) (Nat.le_of_lt GW11.out) ⟨Nat.le_of_lt GW.out, ne_type c3 k1 (by decide)⟩ ⟨Nat.le_of_lt N1.out, ne_type c4 k1 (by decide)⟩ ⟨Nat.le_of_lt N2.out, ne_type c5 k1 (by decide)⟩ ⟨Nat.le_of_lt GW4.out, ne_type k2 k1 (by decide)⟩, ((join_below HB2.out (join_below HB3.out (join_below HBF.out ST.out))).setCell (Nat.le_refl _) _).setCell (Nat.le_refl _) _⟩
   · go_simp
     obtain ⟨v2, hv⟩ : ∃ x, v1.alloc (Obj.cells #[.slice none 0 0, .slice none 0 0] 26) = x := ⟨_, rfl⟩
     rw [hv]
     obtain ⟨g13, hg⟩ : ∃ x, v1.heap.size = x := ⟨_, rfl⟩
     rw [hg]
     have F13 : Aside0 (v2.heap[g13]? = some (.cells #[.slice none 0 0, .slice none 0 0] 26 (0, 0))) := ⟨by rw [← hv, ← hg]; exact blk_new _ _⟩
     have GW13 : Aside0 (W.heap.size < g13) := ⟨by have h1 := HW3.out; have h2 := HV1.out.size; omega⟩
     have ST : Aside0 (Below v1.heap.size v1 v2) := ⟨hv ▸ below1 _ _⟩
     have HV2 : Aside0 (Below w3.heap.size w3 v2) := ⟨join_below HV1.out ST.out⟩
     have FN : Aside0 (a0 ≠ g13) := ⟨by have := G0.out; omega⟩
     have HGE : Aside0 (w3.heap.size ≤ g13) := ⟨hg ▸ HV1.out.size⟩
     clear hv hg
     have G0 := Aside0.mk (Nat.lt_of_lt_of_le G0.out ST.out.size)
     have F0 := Aside0.mk (And.intro (Kd.F_below F0.out.1 ST.out) (And.intro (blk_below F0.out.2.1 ST.out) F0.out.2.2))
     refine hK _ _ ⟨⟨_, HV2.out⟩, rfl⟩ ?_
     clear hK K ST
     refine hall1 (i := 4) (by kernel_rfl) (by rfl) (fun K hK => ?_)
     go_simp
     obtain ⟨v3, hv⟩ : ∃ x, v2.alloc (Obj.cells #[.int .i32 10, .int .i32 10, .int .i32 98, .int .i32 98] 56) = x := ⟨_, rfl⟩
     rw [hv]
     obtain ⟨g4, hg⟩ : ∃ x, v2.heap.size = x := ⟨_, rfl⟩
     rw [hg]
     have F4 : Aside0 (v3.heap[g4]? = some (.cells #[.int .i32 10, .int .i32 10, .int .i32 98, .int .i32 98] 56 (0, 0))) := ⟨by rw [← hv, ← hg]; exact blk_new _ _⟩
     have GW4 : Aside0 (W.heap.size < g4) := ⟨by have h1 := HW3.out; have h2 := HV2.out.size; omega⟩
     have ST : Aside0 (Below v2.heap.size v2 v3) := ⟨hv ▸ below1 _ _⟩
     have HV3 : Aside0 (Below w3.heap.size w3 v3) := ⟨join_below HV2.out ST.out⟩
     clear hv hg
     have G0 := Aside0.mk (Nat.lt_of_lt_of_le G0.out ST.out.size)
     have F0 := Aside0.mk (And.intro (Kd.F_below F0.out.1 ST.out) (And.intro (blk_below F0.out.2.1 ST.out) F0.out.2.2))
     have F13 := Aside0.mk (blk_below F13.out ST.out)
     refine hK _ _ ⟨⟨_, HV3.out⟩, rfl⟩ ?_
     clear hK K ST
     ((refine takeQ (i := 5) (by rfl) (by kernel_rfl) (by kernel_rfl) (by kernel_rfl) ?_ ?_ ?_); (focus exact fun _ _ _ _ h => h); (focus exact ⟨⟨_, HV3.out⟩, rfl⟩); intro K hK; go_simp; (with_reducible refine hK _ ?_); clear hK K)
     ((refine takeQ (i := 6) (by rfl) (by kernel_rfl) (by kernel_rfl) (by kernel_rfl) ?_ ?_ ?_); (focus exact fun _ _ _ _ h => h); (focus exact ⟨⟨_, HV3.out⟩, rfl⟩); intro K hK; go_simp; (with_reducible refine hK _ ?_); clear hK K)
     refine hall1 (i := 11) (by kernel_rfl) (by rfl) (fun K hK => ?_)
     go_simp
     obtain ⟨v4, hv⟩ : ∃ x, v3.alloc (Obj.cells #[.string ⟨#[97]⟩, .int .i64 0, .int .i64 1, .int .i64 2, .slice (some ⟨a0, 0, none⟩) 1 c0, .slice E0 0 e0, .string ⟨#[98]⟩, .int .i64 0, .int .i64 2, .int .i64 2, .slice (some ⟨g4, 0, none⟩) 2 2, .slice none 0 0, .string ⟨#[111]⟩, .int .i64 1, .int .i64 3, .int .i64 2, .slice (some ⟨a1, 0, none⟩) 1 c1, .slice A2 0 c2, .string ⟨#[99]⟩, .int .i64 2, .int .i64 4, .int .i64 2, .slice (some ⟨b1, 0, none⟩) 1 d1, .slice B2 0 d2] 50) = x := ⟨_, rfl⟩
     rw [hv]
     obtain ⟨gR, hg⟩ : ∃ x, v3.heap.size = x := ⟨_, rfl⟩
     rw [hg]
     have F11 : Aside0 (v4.heap[gR]? = some (.cells #[.string ⟨#[97]⟩, .int .i64 0, .int .i64 1, .int .i64 2, .slice (some ⟨a0, 0, none⟩) 1 c0, .slice E0 0 e0, .string ⟨#[98]⟩, .int .i64 0, .int .i64 2, .int .i64 2, .slice (some ⟨g4, 0, none⟩) 2 2, .slice none 0 0, .string ⟨#[111]⟩, .int .i64 1, .int .i64 3, .int .i64 2, .slice (some ⟨a1, 0, none⟩) 1 c1, .slice A2 0 c2, .string ⟨#[99]⟩, .int .i64 2, .int .i64 4, .int .i64 2, .slice (some ⟨b1, 0, none⟩) 1 d1, .slice B2 0 d2] 50 (0, 0))) := ⟨by rw [← hv, ← hg]; exact blk_new _ _⟩
     have GW11 : Aside0 (W.heap.size < gR) := ⟨by have h1 := HW3.out; have h2 := HV3.out.size; omega⟩
     have ST : Aside0 (Below v3.heap.size v3 v4) := ⟨hv ▸ below1 _ _⟩
     have HV4 : Aside0 (Below w3.heap.size w3 v4) := ⟨join_below HV3.out ST.out⟩
     clear hv hg
     have G0 := Aside0.mk (Nat.lt_of_lt_of_le G0.out ST.out.size)
     have F0 := Aside0.mk (And.intro (Kd.F_below F0.out.1 ST.out) (And.intro (blk_below F0.out.2.1 ST.out) F0.out.2.2))
     have F13 := Aside0.mk (blk_below F13.out ST.out)
     have F4 := Aside0.mk (blk_below F4.out ST.out)
     refine hK _ _ ⟨⟨_, HV4.out⟩, rfl⟩ ?_
     clear hK K ST
     ((refine takeQ (i := 12) (by rfl) (by kernel_rfl) (by kernel_rfl) (by kernel_rfl) ?_ ?_ ?_); (focus exact fun _ _ _ _ h => h); (focus exact ⟨⟨_, HV4.out⟩, rfl⟩); intro K hK; go_simp; (with_reducible refine hK _ ?_); clear hK K)
     have ne4 : g4 ≠ g13 := fun e => by have h := F4.out; rw [e, F13.out] at h; simp at h
     have neR : gR ≠ g13 := fun e => by have h := F11.out; rw [e, F13.out] at h; simp at h
     have y0 : World.cell? v4 ⟨g13, 0, none⟩ = some (.slice none 0 0) := (blk_cell F13.out 0).trans rfl
     have y1 : World.cell? v4 ⟨g13, 1, none⟩ = some (.slice none 0 0) := (blk_cell F13.out 1).trans rfl
     have z0 := blk_frozen F13.out 0
     have z1 := blk_frozen F13.out 1
     have hp1 := blk_put F13.out 0 (.slice (some ⟨gR, 0, none⟩) 4 4) rfl
     have y2 : (World.setCell v4 ⟨g13, 0, none⟩ (.slice (some ⟨gR, 0, none⟩) 4 4)).cell? ⟨g13, 1, none⟩ = some (.slice none 0 0) := (blk_cell hp1 1).trans rfl
     have z2 := blk_frozen hp1 1
     have hp2 := blk_put hp1 1 (.slice none 0 0) rfl
     obtain ⟨uf, huf⟩ : ∃ x, (World.setCell v4 ⟨g13, 0, none⟩ (.slice (some ⟨gR, 0, none⟩) 4 4)).setCell ⟨g13, 1, none⟩ (.slice none 0 0) = x := ⟨_, rfl⟩
     have HBF : Aside0 (Below w3.heap.size w3 uf) := ⟨huf ▸ (HV4.out.setCell HGE.out _).setCell HGE.out _⟩
     have f11 := blk_far (p := ⟨g13, 1, none⟩) (blk_far (p := ⟨g13, 0, none⟩) F11.out neR (.slice (some ⟨gR, 0, none⟩) 4 4)) neR (.slice none 0 0)
     have f4 := blk_far (p := ⟨g13, 1, none⟩) (blk_far (p := ⟨g13, 0, none⟩) F4.out ne4 (.slice (some ⟨gR, 0, none⟩) 4 4)) ne4 (.slice none 0 0)
     have f0 := Kd.F_far (p := ⟨g13, 1, none⟩) (Kd.F_far (p := ⟨g13, 0, none⟩) F0.out.1 (fun k hk => by rw [hk]; exact FN.out) (.slice (some ⟨gR, 0, none⟩) 4 4)) (fun k hk => by rw [hk]; exact FN.out) (.slice none 0 0)
     have fx := blk_far (p := ⟨g13, 1, none⟩) (blk_far (p := ⟨g13, 0, none⟩) F0.out.2.1 FN.out (.slice (some ⟨gR, 0, none⟩) 4 4)) FN.out (.slice none 0 0)
     rw [huf] at hp2 f11 f4 f0 fx
     have HF := Aside0.mk hp2
     have HX := Aside0.mk (And.intro f11 (And.intro f4 (And.intro f0 (And.intro fx F0.out.2.2))))
     clear hp2 f11 f4 f0 fx ne4 neR hp1
     refine hall1 (i := 14) (by kernel_rfl) (by rfl) (fun K hK => ?_)
     go_simp
     clear huf y0 y1 y2 z0 z1 z2 F0 F4 F11 F13
     refine hK _ _ ⟨⟨_, HBF.out⟩, rfl⟩ ?_
     clear hK K
     refine wpAnyH_done (by kernel_rfl) ?_ _
     go_wp2
     obtain ⟨wl, hwl⟩ : ∃ x, (uf.alloc (Obj.cells #[.string ⟨#[111]⟩] 9)).alloc (Obj.cells #[.string ⟨#[99]⟩] 9) = x := ⟨_, rfl⟩
     rw [hwl]
     have ST : Aside0 (Below uf.heap.size uf wl) := ⟨hwl ▸ below_alloc (below1 _ _) _⟩
     clear hwl
     go_loopw [8] (fun i w' => i = .int .i64 0 ∧ w' = wl) (fun _ _ => 0)
     case atStart => exact ⟨rfl, rfl⟩
     case round =>
      obtain ⟨rfl, hwr⟩ := hrel
      rw [hwr]
      clear hwr
      have hg := blk_below HF.out ST.out
      have y0 : wl.cell? ⟨g13, 0, none⟩ = some (.slice (some ⟨gR, 0, none⟩) 4 4) := (blk_cell hg 0).trans rfl
      have y1 : wl.cell? ⟨g13, 1, none⟩ = some (.slice none 0 0) := (blk_cell hg 1).trans rfl
      have hw := blk_below (blk_below (blk_below (blk_below HBLK.out HB12.out) HB3.out) HBF.out) ST.out
      have x0 : wl.cell? ⟨W.heap.size, 0, none⟩ = some (.slice none 0 0) := (blk_cell hw 0).trans rfl
      have x1 : wl.cell? ⟨W.heap.size, 1, none⟩ = some (.slice none 0 0) := (blk_cell hw 1).trans rfl
      have z0 := blk_frozen hw 0
      have z1 := blk_frozen hw 1
      have hp1 := blk_put hw 0 (.slice (some ⟨gR, 0, none⟩) 4 4) rfl
      have x2 : (wl.setCell ⟨W.heap.size, 0, none⟩ (.slice (some ⟨gR, 0, none⟩) 4 4)).cell? ⟨W.heap.size, 1, none⟩ = some (.slice none 0 0) := (blk_cell hp1 1).trans rfl
      have z2 := blk_frozen hp1 1
      have HP2 := Aside0.mk (blk_put hp1 1 (.slice none 0 0) rfl)
      clear hg hw hp1
      go_wp2
      refine bodyPost_ret (results_cell_row rfl _ _ W.heap.size 26 #[.slice (some ⟨gR, 0, none⟩) 4 4, .slice none 0 0] (0, 0) _ rfl HP2.out Tryd.underlying26 rfl (by kernel_rfl)) rfl ?_
      have hx := HX.out
      have WN : ∀ g : Nat, W.heap.size < g → g ≠ W.heap.size := fun g h => by omega
      have k1 := blk_far (p := ⟨W.heap.size, 1, none⟩) (blk_far (p := ⟨W.heap.size, 0, none⟩) (blk_below hx.1 ST.out) (WN _ GW11.out) (.slice (some ⟨gR, 0, none⟩) 4 4)) (WN _ GW11.out) (.slice none 0 0)
      have k2 := blk_far (p := ⟨W.heap.size, 1, none⟩) (blk_far (p := ⟨W.heap.size, 0, none⟩) (blk_below hx.2.1 ST.out) (WN _ GW4.out) (.slice (some ⟨gR, 0, none⟩) 4 4)) (WN _ GW4.out) (.slice none 0 0)
      have k3 := f_put (m := 4) (c := 4) GW.out ⟨gR, 0, none⟩ (Kd.F_below hx.2.2.1 ST.out)
      have c3 := blk_far (p := ⟨W.heap.size, 1, none⟩) (blk_far (p := ⟨W.heap.size, 0, none⟩) (blk_below hx.2.2.2.1 ST.out) (WN _ GW.out) (.slice (some ⟨gR, 0, none⟩) 4 4)) (WN _ GW.out) (.slice none 0 0)
      have BB := join_below HB3.out (join_below HBF.out ST.out)
      have k4 := f_put (m := 4) (c := 4) N1.out ⟨gR, 0, none⟩ (Kd.F_below (Kd.F_below H1.out.2.1 HB12.out) BB)
      have c4 := blk_far (p := ⟨W.heap.size, 1, none⟩) (blk_far (p := ⟨W.heap.size, 0, none⟩) (blk_below (blk_below H1.out.2.2.1 HB12.out) BB) (WN _ N1.out) (.slice (some ⟨gR, 0, none⟩) 4 4)) (WN _ N1.out) (.slice none 0 0)
      have k5 := f_put (m := 4) (c := 4) N2.out ⟨gR, 0, none⟩ (Kd.F_below H2.out.2.1 BB)
      have c5 := blk_far (p := ⟨W.heap.size, 1, none⟩) (blk_far (p := ⟨W.heap.size, 0, none⟩) (blk_below H2.out.2.2.1 BB) (WN _ N2.out) (.slice (some ⟨gR, 0, none⟩) 4 4)) (WN _ N2.out) (.slice none 0 0)
      exact ⟨_, rfl, made_row k1 (range_new k2) hx.2.2.2.2.2 k3 (fun _ => re_none hx.2.2.2.2.1) H1.out.1 k4 (fun _ => re_none H1.out.2.2.2) H2.out.1 k5 (fun _ => re_none H2.out.2.2.2) (Nat.le_of_lt GW11.out) ⟨Nat.le_of_lt GW.out, ne_type c3 k1 (by decide)⟩ ⟨Nat.le_of_lt N1.out, ne_type c4 k1 (by decide)⟩ ⟨Nat.le_of_lt N2.out, ne_type c5 k1 (by decide)⟩ ⟨Nat.le_of_lt GW4.out, ne_type k2 k1 (by decide)⟩, ((join_below HB2.out (join_below HB3.out (join_below HBF.out ST.out))).setCell (Nat.le_refl _) _).setCell (Nat.le_refl _) _⟩
 · go_simp
   obtain ⟨v1, hv⟩ : ∃ x, wd.alloc (Obj.cells #[.int .i32 10, .int .i32 10, .int .i32 98, .int .i32 98] 56) = x := ⟨_, rfl⟩
   rw [hv]
   obtain ⟨g4, hg⟩ : ∃ x, wd.heap.size = x := ⟨_, rfl⟩
   rw [hg]
   have F4 : Aside0 (v1.heap[g4]? = some (.cells #[.int .i32 10, .int .i32 10, .int .i32 98, .int .i32 98] 56 (0, 0))) := ⟨by rw [← hv, ← hg]; exact blk_new _ _⟩
   have GW4 : Aside0 (W.heap.size < g4) := ⟨by have h1 := HW3.out; have h2 := HLAT.out.size; omega⟩
   have ST : Aside0 (Below wd.heap.size wd v1) := ⟨hv ▸ below1 _ _⟩
   have HV1 : Aside0 (Below w3.heap.size w3 v1) := ⟨join_below HLAT.out ST.out⟩
   clear hv hg
   refine hK _ _ ⟨⟨_, HV1.out⟩, rfl⟩ ?_
   clear hK K ST
   ((refine takeQ (i := 5) (by rfl) (by kernel_rfl) (by kernel_rfl) (by kernel_rfl) ?_ ?_ ?_); (focus exact fun _ _ _ _ h => h); (focus exact ⟨⟨_, HV1.out⟩, rfl⟩); intro K hK; go_simp; (with_reducible refine hK _ ?_); clear hK K)
   ((refine takeQ (i := 6) (by rfl) (by kernel_rfl) (by kernel_rfl) (by kernel_rfl) ?_ ?_ ?_); (focus exact fun _ _ _ _ h => h); (focus exact ⟨⟨_, HV1.out⟩, rfl⟩); intro K hK; go_simp; (with_reducible refine hK _ ?_); clear hK K)
   refine hall2 (i := 0) (j := 13) (by kernel_rfl) (by rfl) (by rfl) (fun K hK => ?_) (fun K hK => ?_)
   · go_simp
     refine (one_any 97 _).mono ?_
     rintro e v2 ⟨a0, c0, E0, e0, X0, rfl, f1, f2, fX, f3, f4, f5, hb⟩
     have G0 := Aside0.mk f5
     have GW : Aside0 (W.heap.size < a0) := ⟨by have h1 := HW3.out; have h2 := HV1.out.size; omega⟩
     have ST := Aside0.mk hb
     have HV2 : Aside0 (Below w3.heap.size w3 v2) := ⟨join_below HV1.out hb⟩
     have F0 := Aside0.mk (And.intro f2 (And.intro fX (And.intro f3 f1)))
     clear f1 f2 f3 f4 f5 fX hb
     have F4 := Aside0.mk (blk_below F4.out ST.out)
     refine hK _ _ ⟨⟨_, HV2.out⟩, rfl⟩ ?_
     clear hK K ST
     ((refine takeQ (i := 1) (by rfl) (by kernel_rfl) (by kernel_rfl) (by kernel_rfl) ?_ ?_ ?_); (focus exact fun _ _ _ _ h => h); (focus exact ⟨⟨_, HV2.out⟩, rfl⟩); intro K hK; go_simp; (with_reducible refine hK _ ?_); clear hK K)
     refine hall2 (i := 11) (j := 13) (by kernel_rfl) (by rfl) (by rfl) (fun K hK => ?_) (fun K hK => ?_)
     · go_simp
       obtain ⟨v3, hv⟩ : ∃ x, v2.alloc (Obj.cells #[.string ⟨#[97]⟩, .int .i64 0, .int .i64 1, .int .i64 2, .slice (some ⟨a0, 0, none⟩) 1 c0, .slice E0 0 e0, .string ⟨#[98]⟩, .int .i64 0, .int .i64 2, .int .i64 2, .slice (some ⟨g4, 0, none⟩) 2 2, .slice none 0 0, .string ⟨#[111]⟩, .int .i64 1, .int .i64 3, .int .i64 2, .slice (some ⟨a1, 0, none⟩) 1 c1, .slice A2 0 c2, .string ⟨#[99]⟩, .int .i64 2, .int .i64 4, .int .i64 2, .slice (some ⟨b1, 0, none⟩) 1 d1, .slice B2 0 d2] 50) = x := ⟨_, rfl⟩
       rw [hv]
       obtain ⟨gR, hg⟩ : ∃ x, v2.heap.size = x := ⟨_, rfl⟩
       rw [hg]
       have F11 : Aside0 (v3.heap[gR]? = some (.cells #[.string ⟨#[97]⟩, .int .i64 0, .int .i64 1, .int .i64 2, .slice (some ⟨a0, 0, none⟩) 1 c0, .slice E0 0 e0, .string ⟨#[98]⟩, .int .i64 0, .int .i64 2, .int .i64 2, .slice (some ⟨g4, 0, none⟩) 2 2, .slice none 0 0, .string ⟨#[111]⟩, .int .i64 1, .int .i64 3, .int .i64 2, .slice (some ⟨a1, 0, none⟩) 1 c1, .slice A2 0 c2, .string ⟨#[99]⟩, .int .i64 2, .int .i64 4, .int .i64 2, .slice (some ⟨b1, 0, none⟩) 1 d1, .slice B2 0 d2] 50 (0, 0))) := ⟨by rw [← hv, ← hg]; exact blk_new _ _⟩
       have GW11 : Aside0 (W.heap.size < gR) := ⟨by have h1 := HW3.out; have h2 := HV2.out.size; omega⟩
       have ST : Aside0 (Below v2.heap.size v2 v3) := ⟨hv ▸ below1 _ _⟩
       have HV3 : Aside0 (Below w3.heap.size w3 v3) := ⟨join_below HV2.out ST.out⟩
       clear hv hg
       have F4 := Aside0.mk (blk_below F4.out ST.out)
       have G0 := Aside0.mk (Nat.lt_of_lt_of_le G0.out ST.out.size)
       have F0 := Aside0.mk (And.intro (Kd.F_below F0.out.1 ST.out) (And.intro (blk_below F0.out.2.1 ST.out) F0.out.2.2))
       refine hK _ _ ⟨⟨_, HV3.out⟩, rfl⟩ ?_
       clear hK K ST
       ((refine takeQ (i := 12) (by rfl) (by kernel_rfl) (by kernel_rfl) (by kernel_rfl) ?_ ?_ ?_); (focus exact fun _ _ _ _ h => h); (focus exact ⟨⟨_, HV3.out⟩, rfl⟩); intro K hK; go_simp; (with_reducible refine hK _ ?_); clear hK K)
       refine hall1 (i := 13) (by kernel_rfl) (by rfl) (fun K hK => ?_)
       go_simp
       obtain ⟨v4, hv⟩ : ∃ x, v3.alloc (Obj.cells #[.slice none 0 0, .slice none 0 0] 26) = x := ⟨_, rfl⟩
       rw [hv]
       obtain ⟨g13, hg⟩ : ∃ x, v3.heap.size = x := ⟨_, rfl⟩
       rw [hg]
       have F13 : Aside0 (v4.heap[g13]? = some (.cells #[.slice none 0 0, .slice none 0 0] 26 (0, 0))) := ⟨by rw [← hv, ← hg]; exact blk_new _ _⟩
       have GW13 : Aside0 (W.heap.size < g13) := ⟨by have h1 := HW3.out; have h2 := HV3.out.size; omega⟩
       have ST : Aside0 (Below v3.heap.size v3 v4) := ⟨hv ▸ below1 _ _⟩
       have HV4 : Aside0 (Below w3.heap.size w3 v4) := ⟨join_below HV3.out ST.out⟩
       have FN : Aside0 (a0 ≠ g13) := ⟨by have := G0.out; omega⟩
       have HGE : Aside0 (w3.heap.size ≤ g13) := ⟨hg ▸ HV3.out.size⟩
       clear hv hg
       have F4 := Aside0.mk (blk_below F4.out ST.out)
       have G0 := Aside0.mk (Nat.lt_of_lt_of_le G0.out ST.out.size)
       have F0 := Aside0.mk (And.intro (Kd.F_below F0.out.1 ST.out) (And.intro (blk_below F0.out.2.1 ST.out) F0.out.2.2))
       have F11 := Aside0.mk (blk_below F11.out ST.out)
       refine hK _ _ ⟨⟨_, HV4.out⟩, rfl⟩ ?_
       clear hK K ST
       have ne4 : g4 ≠ g13 := fun e => by have h := F4.out; rw [e, F13.out] at h; simp at h
       have neR : gR ≠ g13 := fun e => by have h := F11.out; rw [e, F13.out] at h; simp at h
       have y0 : World.cell? v4 ⟨g13, 0, none⟩ = some (.slice none 0 0) := (blk_cell F13.out 0).trans rfl
       have y1 : World.cell? v4 ⟨g13, 1, none⟩ = some (.slice none 0 0) := (blk_cell F13.out 1).trans rfl
       have z0 := blk_frozen F13.out 0
       have z1 := blk_frozen F13.out 1
       have hp1 := blk_put F13.out 0 (.slice (some ⟨gR, 0, none⟩) 4 4) rfl
       have y2 : (World.setCell v4 ⟨g13, 0, none⟩ (.slice (some ⟨gR, 0, none⟩) 4 4)).cell? ⟨g13, 1, none⟩ = some (.slice none 0 0) := (blk_cell hp1 1).trans rfl
       have z2 := blk_frozen hp1 1
       have hp2 := blk_put hp1 1 (.slice none 0 0) rfl
       obtain ⟨uf, huf⟩ : ∃ x, (World.setCell v4 ⟨g13, 0, none⟩ (.slice (some ⟨gR, 0, none⟩) 4 4)).setCell ⟨g13, 1, none⟩ (.slice none 0 0) = x := ⟨_, rfl⟩
       have HBF : Aside0 (Below w3.heap.size w3 uf) := ⟨huf ▸ (HV4.out.setCell HGE.out _).setCell HGE.out _⟩
       have f11 := blk_far (p := ⟨g13, 1, none⟩) (blk_far (p := ⟨g13, 0, none⟩) F11.out neR (.slice (some ⟨gR, 0, none⟩) 4 4)) neR (.slice none 0 0)
       have f4 := blk_far (p := ⟨g13, 1, none⟩) (blk_far (p := ⟨g13, 0, none⟩) F4.out ne4 (.slice (some ⟨gR, 0, none⟩) 4 4)) ne4 (.slice none 0 0)
       have f0 := Kd.F_far (p := ⟨g13, 1, none⟩) (Kd.F_far (p := ⟨g13, 0, none⟩) F0.out.1 (fun k hk => by rw [hk]; exact FN.out) (.slice (some ⟨gR, 0, none⟩) 4 4)) (fun k hk => by rw [hk]; exact FN.out) (.slice none 0 0)
       have fx := blk_far (p := ⟨g13, 1, none⟩) (blk_far (p := ⟨g13, 0, none⟩) F0.out.2.1 FN.out (.slice (some ⟨gR, 0, none⟩) 4 4)) FN.out (.slice none 0 0)
       rw [huf] at hp2 f11 f4 f0 fx
       have HF := Aside0.mk hp2
       have HX := Aside0.mk (And.intro f11 (And.intro f4 (And.intro f0 (And.intro fx F0.out.2.2))))
       clear hp2 f11 f4 f0 fx ne4 neR hp1
       refine hall1 (i := 14) (by kernel_rfl) (by rfl) (fun K hK => ?_)
       go_simp
       clear huf y0 y1 y2 z0 z1 z2 F0 F4 F11 F13
       refine hK _ _ ⟨⟨_, HBF.out⟩, rfl⟩ ?_
       clear hK K
       refine wpAnyH_done (by kernel_rfl) ?_ _
       go_wp2
       obtain ⟨wl, hwl⟩ : ∃ x, (uf.alloc (Obj.cells #[.string ⟨#[111]⟩] 9)).alloc (Obj.cells #[.string ⟨#[99]⟩] 9) = x := ⟨_, rfl⟩
       rw [hwl]
       have ST : Aside0 (Below uf.heap.size uf wl) := ⟨hwl ▸ below_alloc (below1 _ _) _⟩
       clear hwl
       go_loopw [8] (fun i w' => i = .int .i64 0 ∧ w' = wl) (fun _ _ => 0)
       case atStart => exact ⟨rfl, rfl⟩
       case round =>
        obtain ⟨rfl, hwr⟩ := hrel
        rw [hwr]
        clear hwr
        have hg := blk_below HF.out ST.out
        have y0 : wl.cell? ⟨g13, 0, none⟩ = some (.slice (some ⟨gR, 0, none⟩) 4 4) := (blk_cell hg 0).trans rfl
        have y1 : wl.cell? ⟨g13, 1, none⟩ = some (.slice none 0 0) := (blk_cell hg 1).trans rfl
        have hw := blk_below (blk_below (blk_below (blk_below HBLK.out HB12.out) HB3.out) HBF.out) ST.out
        have x0 : wl.cell? ⟨W.heap.size, 0, none⟩ = some (.slice none 0 0) := (blk_cell hw 0).trans rfl
        have x1 : wl.cell? ⟨W.heap.size, 1, none⟩ = some (.slice none 0 0) := (blk_cell hw 1).trans rfl
        have z0 := blk_frozen hw 0
        have z1 := blk_frozen hw 1
        have hp1 := blk_put hw 0 (.slice (some ⟨gR, 0, none⟩) 4 4) rfl
        have x2 : (wl.setCell ⟨W.heap.size, 0, none⟩ (.slice (some ⟨gR, 0, none⟩) 4 4)).cell? ⟨W.heap.size, 1, none⟩ = some (.slice none 0 0) := (blk_cell hp1 1).trans rfl
        have z2 := blk_frozen hp1 1
        have HP2 := Aside0.mk (blk_put hp1 1 (.slice none 0 0) rfl)
        clear hg hw hp1
        go_wp2
        refine bodyPost_ret (results_cell_row rfl _ _ W.heap.size 26 #[.slice (some ⟨gR, 0, none⟩) 4 4, .slice none 0 0] (0, 0) _ rfl HP2.out Tryd.underlying26 rfl (by kernel_rfl)) rfl ?_
        have hx := HX.out
        have WN : ∀ g : Nat, W.heap.size < g → g ≠ W.heap.size := fun g h => by omega
        have k1 := blk_far (p := ⟨W.heap.size, 1, none⟩) (blk_far (p := ⟨W.heap.size, 0, none⟩) (blk_below hx.1 ST.out) (WN _ GW11.out) (.slice (some ⟨gR, 0, none⟩) 4 4)) (WN _ GW11.out) (.slice none 0 0)
        have k2 := blk_far (p := ⟨W.heap.size, 1, none⟩) (blk_far (p := ⟨W.heap.size, 0, none⟩) (blk_below hx.2.1 ST.out) (WN _ GW4.out) (.slice (some ⟨gR, 0, none⟩) 4 4)) (WN _ GW4.out) (.slice none 0 0)
        have k3 := f_put (m := 4) (c := 4) GW.out ⟨gR, 0, none⟩ (Kd.F_below hx.2.2.1 ST.out)
        have c3 := blk_far (p := ⟨W.heap.size, 1, none⟩) (blk_far (p := ⟨W.heap.size, 0, none⟩) (blk_below hx.2.2.2.1 ST.out) (WN _ GW.out) (.slice (some ⟨gR, 0, none⟩) 4 4)) (WN _ GW.out) (.slice none 0 0)
        have BB := join_below HB3.out (join_below HBF.out ST.out)
        have k4 := f_put (m := 4) (c := 4) N1.out ⟨gR, 0, none⟩ (Kd.F_below (Kd.F_below H1.out.2.1 HB12.out) BB)
        have c4 := blk_far (p := ⟨W.heap.size, 1, none⟩) (blk_far (p := ⟨W.heap.size, 0, none⟩) (blk_below (blk_below H1.out.2.2.1 HB12.out) BB) (WN _ N1.out) (.slice (some ⟨gR, 0, none⟩) 4 4)) (WN _ N1.out) (.slice none 0 0)
        have k5 := f_put (m := 4) (c := 4) N2.out ⟨gR, 0, none⟩ (Kd.F_below H2.out.2.1 BB)
        have c5 := blk_far (p := ⟨W.heap.size, 1, none⟩) (blk_far (p := ⟨W.heap.size, 0, none⟩) (blk_below H2.out.2.2.1 BB) (WN _ N2.out) (.slice (some ⟨gR, 0, none⟩) 4 4)) (WN _ N2.out) (.slice none 0 0)
        exact ⟨_, rfl, made_row k1 (range_new k2) hx.2.2.2.2.2 k3 (fun _ => re_none hx.2.2.2.2.1) H1.out.1 k4 (fun _ => re_none H1.out.2.2.2) H2.out.1 k5 (fun _ => re_none H2.out.2.2.2) (Nat.le_of_lt GW11.out) ⟨Nat.le_of_lt GW.out, ne_type c3 k1 (by decide)⟩ ⟨Nat.le_of_lt N1.out, ne_type c4 k1 (by decide)⟩ ⟨Nat.le_of_lt N2.out, ne_type c5 k1 (by decide)⟩ ⟨Nat.le_of_lt GW4.out, ne_type k2 k1 (by decide)⟩, ((join_below HB2.out (join_below HB3.out (join_below HBF.out ST.out))).setCell (Nat.le_refl _) _).setCell (Nat.le_refl _) _⟩
     · go_simp
       obtain ⟨v3, hv⟩ : ∃ x, v2.alloc (Obj.cells #[.slice none 0 0, .slice none 0 0] 26) = x := ⟨_, rfl⟩
       rw [hv]
       obtain ⟨g13, hg⟩ : ∃ x, v2.heap.size = x := ⟨_, rfl⟩
       rw [hg]
       have F13 : Aside0 (v3.heap[g13]? = some (.cells #[.slice none 0 0, .slice none 0 0] 26 (0, 0))) := ⟨by rw [← hv, ← hg]; exact blk_new _ _⟩
       have GW13 : Aside0 (W.heap.size < g13) := ⟨by have h1 := HW3.out; have h2 := HV2.out.size; omega⟩
       have ST : Aside0 (Below v2.heap.size v2 v3) := ⟨hv ▸ below1 _ _⟩
       have HV3 : Aside0 (Below w3.heap.size w3 v3) := ⟨join_below HV2.out ST.out⟩
       have FN : Aside0 (a0 ≠ g13) := ⟨by have := G0.out; omega⟩
       have HGE : Aside0 (w3.heap.size ≤ g13) := ⟨hg ▸ HV2.out.size⟩
       clear hv hg
       have F4 := Aside0.mk (blk_below F4.out ST.out)
       have G0 := Aside0.mk (Nat.lt_of_lt_of_le G0.out ST.out.size)
       have F0 := Aside0.mk (And.intro (Kd.F_below F0.out.1 ST.out) (And.intro (blk_below F0.out.2.1 ST.out) F0.out.2.2))
       refine hK _ _ ⟨⟨_, HV3.out⟩, rfl⟩ ?_
       clear hK K ST
       refine hall1 (i := 11) (by kernel_rfl) (by rfl) (fun K hK => ?_)
       go_simp
       obtain ⟨v4, hv⟩ : ∃ x, v3.alloc (Obj.cells #[.string ⟨#[97]⟩, .int .i64 0, .int .i64 1, .int .i64 2, .slice (some ⟨a0, 0, none⟩) 1 c0, .slice E0 0 e0, .string ⟨#[98]⟩, .int .i64 0, .int .i64 2, .int .i64 2, .slice (some ⟨g4, 0, none⟩) 2 2, .slice none 0 0, .string ⟨#[111]⟩, .int .i64 1, .int .i64 3, .int .i64 2, .slice (some ⟨a1, 0, none⟩) 1 c1, .slice A2 0 c2, .string ⟨#[99]⟩, .int .i64 2, .int .i64 4, .int .i64 2, .slice (some ⟨b1, 0, none⟩) 1 d1, .slice B2 0 d2] 50) = x := ⟨_, rfl⟩
       rw [hv]
       obtain ⟨gR, hg⟩ : ∃ x, v3.heap.size = x := ⟨_, rfl⟩
       rw [hg]
       have F11 : Aside0 (v4.heap[gR]? = some (.cells #[.string ⟨#[97]⟩, .int .i64 0, .int .i64 1, .int .i64 2, .slice (some ⟨a0, 0, none⟩) 1 c0, .slice E0 0 e0, .string ⟨#[98]⟩, .int .i64 0, .int .i64 2, .int .i64 2, .slice (some ⟨g4, 0, none⟩) 2 2, .slice none 0 0, .string ⟨#[111]⟩, .int .i64 1, .int .i64 3, .int .i64 2, .slice (some ⟨a1, 0, none⟩) 1 c1, .slice A2 0 c2, .string ⟨#[99]⟩, .int .i64 2, .int .i64 4, .int .i64 2, .slice (some ⟨b1, 0, none⟩) 1 d1, .slice B2 0 d2] 50 (0, 0))) := ⟨by rw [← hv, ← hg]; exact blk_new _ _⟩
       have GW11 : Aside0 (W.heap.size < gR) := ⟨by have h1 := HW3.out; have h2 := HV3.out.size; omega⟩
       have ST : Aside0 (Below v3.heap.size v3 v4) := ⟨hv ▸ below1 _ _⟩
       have HV4 : Aside0 (Below w3.heap.size w3 v4) := ⟨join_below HV3.out ST.out⟩
       clear hv hg
       have F4 := Aside0.mk (blk_below F4.out ST.out)
       have G0 := Aside0.mk (Nat.lt_of_lt_of_le G0.out ST.out.size)
       have F0 := Aside0.mk (And.intro (Kd.F_below F0.out.1 ST.out) (And.intro (blk_below F0.out.2.1 ST.out) F0.out.2.2))
       have F13 := Aside0.mk (blk_below F13.out ST.out)
       refine hK _ _ ⟨⟨_, HV4.out⟩, rfl⟩ ?_
       clear hK K ST
       ((refine takeQ (i := 12) (by rfl) (by kernel_rfl) (by kernel_rfl) (by kernel_rfl) ?_ ?_ ?_); (focus exact fun _ _ _ _ h => h); (focus exact ⟨⟨_, HV4.out⟩, rfl⟩); intro K hK; go_simp; (with_reducible refine hK _ ?_); clear hK K)
       have ne4 : g4 ≠ g13 := fun e => by have h := F4.out; rw [e, F13.out] at h; simp at h
       have neR : gR ≠ g13 := fun e => by have h := F11.out; rw [e, F13.out] at h; simp at h
       have y0 : World.cell? v4 ⟨g13, 0, none⟩ = some (.slice none 0 0) := (blk_cell F13.out 0).trans rfl
       have y1 : World.cell? v4 ⟨g13, 1, none⟩ = some (.slice none 0 0) := (blk_cell F13.out 1).trans rfl
       have z0 := blk_frozen F13.out 0
       have z1 := blk_frozen F13.out 1
       have hp1 := blk_put F13.out 0 (.slice (some ⟨gR, 0, none⟩) 4 4) rfl
       have y2 : (World.setCell v4 ⟨g13, 0, none⟩ (.slice (some ⟨gR, 0, none⟩) 4 4)).cell? ⟨g13, 1, none⟩ = some (.slice none 0 0) := (blk_cell hp1 1).trans rfl
       have z2 := blk_frozen hp1 1
       have hp2 := blk_put hp1 1 (.slice none 0 0) rfl
       obtain ⟨uf, huf⟩ : ∃ x, (World.setCell v4 ⟨g13, 0, none⟩ (.slice (some ⟨gR, 0, none⟩) 4 4)).setCell ⟨g13, 1, none⟩ (.slice none 0 0) = x := ⟨_, rfl⟩
       have HBF : Aside0 (Below w3.heap.size w3 uf) := ⟨huf ▸ (HV4.out.setCell HGE.out _).setCell HGE.out _⟩
       have f11 := blk_far (p := ⟨g13, 1, none⟩) (blk_far (p := ⟨g13, 0, none⟩) F11.out neR (.slice (some ⟨gR, 0, none⟩) 4 4)) neR (.slice none 0 0)
       have f4 := blk_far (p := ⟨g13, 1, none⟩) (blk_far (p := ⟨g13, 0, none⟩) F4.out ne4 (.slice (some ⟨gR, 0, none⟩) 4 4)) ne4 (.slice none 0 0)
       have f0 := Kd.F_far (p := ⟨g13, 1, none⟩) (Kd.F_far (p := ⟨g13, 0, none⟩) F0.out.1 (fun k hk => by rw [hk]; exact FN.out) (.slice (some ⟨gR, 0, none⟩) 4 4)) (fun k hk => by rw [hk]; exact FN.out) (.slice none 0 0)
       have fx := blk_far (p := ⟨g13, 1, none⟩) (blk_far (p := ⟨g13, 0, none⟩) F0.out.2.1 FN.out (.slice (some ⟨gR, 0, none⟩) 4 4)) FN.out (.slice none 0 0)
       rw [huf] at hp2 f11 f4 f0 fx
       have HF := Aside0.mk hp2
       have HX := Aside0.mk (And.intro f11 (And.intro f4 (And.intro f0 (And.intro fx F0.out.2.2))))
       clear hp2 f11 f4 f0 fx ne4 neR hp1
       refine hall1 (i := 14) (by kernel_rfl) (by rfl) (fun K hK => ?_)
       go_simp
       clear huf y0 y1 y2 z0 z1 z2 F0 F4 F11 F13
       refine hK _ _ ⟨⟨_, HBF.out⟩, rfl⟩ ?_
       clear hK K
       refine wpAnyH_done (by kernel_rfl) ?_ _
       go_wp2
       obtain ⟨wl, hwl⟩ : ∃ x, (uf.alloc (Obj.cells #[.string ⟨#[111]⟩] 9)).alloc (Obj.cells #[.string ⟨#[99]⟩] 9) = x := ⟨_, rfl⟩
       rw [hwl]
       have ST : Aside0 (Below uf.heap.size uf wl) := ⟨hwl ▸ below_alloc (below1 _ _) _⟩
       clear hwl
       go_loopw [8] (fun i w' => i = .int .i64 0 ∧ w' = wl) (fun _ _ => 0)
       case atStart => exact ⟨rfl, rfl⟩
       case round =>
        obtain ⟨rfl, hwr⟩ := hrel
        rw [hwr]
        clear hwr
        have hg := blk_below HF.out ST.out
        have y0 : wl.cell? ⟨g13, 0, none⟩ = some (.slice (some ⟨gR, 0, none⟩) 4 4) := (blk_cell hg 0).trans rfl
        have y1 : wl.cell? ⟨g13, 1, none⟩ = some (.slice none 0 0) := (blk_cell hg 1).trans rfl
        have hw := blk_below (blk_below (blk_below (blk_below HBLK.out HB12.out) HB3.out) HBF.out) ST.out
        have x0 : wl.cell? ⟨W.heap.size, 0, none⟩ = some (.slice none 0 0) := (blk_cell hw 0).trans rfl
        have x1 : wl.cell? ⟨W.heap.size, 1, none⟩ = some (.slice none 0 0) := (blk_cell hw 1).trans rfl
        have z0 := blk_frozen hw 0
        have z1 := blk_frozen hw 1
        have hp1 := blk_put hw 0 (.slice (some ⟨gR, 0, none⟩) 4 4) rfl
        have x2 : (wl.setCell ⟨W.heap.size, 0, none⟩ (.slice (some ⟨gR, 0, none⟩) 4 4)).cell? ⟨W.heap.size, 1, none⟩ = some (.slice none 0 0) := (blk_cell hp1 1).trans rfl
        have z2 := blk_frozen hp1 1
        have HP2 := Aside0.mk (blk_put hp1 1 (.slice none 0 0) rfl)
        clear hg hw hp1
        go_wp2
        refine bodyPost_ret (results_cell_row rfl _ _ W.heap.size 26 #[.slice (some ⟨gR, 0, none⟩) 4 4, .slice none 0 0] (0, 0) _ rfl HP2.out Tryd.underlying26 rfl (by kernel_rfl)) rfl ?_
        have hx := HX.out
        have WN : ∀ g : Nat, W.heap.size < g → g ≠ W.heap.size := fun g h => by omega
        have k1 := blk_far (p := ⟨W.heap.size, 1, none⟩) (blk_far (p := ⟨W.heap.size, 0, none⟩) (blk_below hx.1 ST.out) (WN _ GW11.out) (.slice (some ⟨gR, 0, none⟩) 4 4)) (WN _ GW11.out) (.slice none 0 0)
        have k2 := blk_far (p := ⟨W.heap.size, 1, none⟩) (blk_far (p := ⟨W.heap.size, 0, none⟩) (blk_below hx.2.1 ST.out) (WN _ GW4.out) (.slice (some ⟨gR, 0, none⟩) 4 4)) (WN _ GW4.out) (.slice none 0 0)
        have k3 := f_put (m := 4) (c := 4) GW.out ⟨gR, 0, none⟩ (Kd.F_below hx.2.2.1 ST.out)
        have c3 := blk_far (p := ⟨W.heap.size, 1, none⟩) (blk_far (p := ⟨W.heap.size, 0, none⟩) (blk_below hx.2.2.2.1 ST.out) (WN _ GW.out) (.slice (some ⟨gR, 0, none⟩) 4 4)) (WN _ GW.out) (.slice none 0 0)
        have BB := join_below HB3.out (join_below HBF.out ST.out)
        have k4 := f_put (m := 4) (c := 4) N1.out ⟨gR, 0, none⟩ (Kd.F_below (Kd.F_below H1.out.2.1 HB12.out) BB)
        have c4 := blk_far (p := ⟨W.heap.size, 1, none⟩) (blk_far (p := ⟨W.heap.size, 0, none⟩) (blk_below (blk_below H1.out.2.2.1 HB12.out) BB) (WN _ N1.out) (.slice (some ⟨gR, 0, none⟩) 4 4)) (WN _ N1.out) (.slice none 0 0)
        have k5 := f_put (m := 4) (c := 4) N2.out ⟨gR, 0, none⟩ (Kd.F_below H2.out.2.1 BB)
        have c5 := blk_far (p := ⟨W.heap.size, 1, none⟩) (blk_far (p := ⟨W.heap.size, 0, none⟩) (blk_below H2.out.2.2.1 BB) (WN _ N2.out) (.slice (some ⟨gR, 0, none⟩) 4 4)) (WN _ N2.out) (.slice none 0 0)
        exact ⟨_, rfl, made_row k1 (range_new k2) hx.2.2.2.2.2 k3 (fun _ => re_none hx.2.2.2.2.1) H1.out.1 k4 (fun _ => re_none H1.out.2.2.2) H2.out.1 k5 (fun _ => re_none H2.out.2.2.2) (Nat.le_of_lt GW11.out) ⟨Nat.le_of_lt GW.out, ne_type c3 k1 (by decide)⟩ ⟨Nat.le_of_lt N1.out, ne_type c4 k1 (by decide)⟩ ⟨Nat.le_of_lt N2.out, ne_type c5 k1 (by decide)⟩ ⟨Nat.le_of_lt GW4.out, ne_type k2 k1 (by decide)⟩, ((join_below HB2.out (join_below HB3.out (join_below HBF.out ST.out))).setCell (Nat.le_refl _) _).setCell (Nat.le_refl _) _⟩
   · go_simp
     obtain ⟨v2, hv⟩ : ∃ x, v1.alloc (Obj.cells #[.slice none 0 0, .slice none 0 0] 26) = x := ⟨_, rfl⟩
     rw [hv]
     obtain ⟨g13, hg⟩ : ∃ x, v1.heap.size = x := ⟨_, rfl⟩
     rw [hg]
     have F13 : Aside0 (v2.heap[g13]? = some (.cells #[.slice none 0 0, .slice none 0 0] 26 (0, 0))) := ⟨by rw [← hv, ← hg]; exact blk_new _ _⟩
     have GW13 : Aside0 (W.heap.size < g13) := ⟨by have h1 := HW3.out; have h2 := HV1.out.size; omega⟩
     have ST : Aside0 (Below v1.heap.size v1 v2) := ⟨hv ▸ below1 _ _⟩
     have HV2 : Aside0 (Below w3.heap.size w3 v2) := ⟨join_below HV1.out ST.out⟩
     have HGE : Aside0 (w3.heap.size ≤ g13) := ⟨hg ▸ HV1.out.size⟩
     clear hv hg
     have F4 := Aside0.mk (blk_below F4.out ST.out)
     refine hK _ _ ⟨⟨_, HV2.out⟩, rfl⟩ ?_
     clear hK K ST
     refine hall1 (i := 0) (by kernel_rfl) (by rfl) (fun K hK => ?_)
     go_simp
     refine (one_any 97 _).mono ?_
     rintro e v3 ⟨a0, c0, E0, e0, X0, rfl, f1, f2, fX, f3, f4, f5, hb⟩
     have FN : Aside0 (a0 ≠ g13) := ⟨by have := blk_lt F13.out; omega⟩
     have G0 := Aside0.mk f5
     have GW : Aside0 (W.heap.size < a0) := ⟨by have h1 := HW3.out; have h2 := HV2.out.size; omega⟩
     have ST := Aside0.mk hb
     have HV3 : Aside0 (Below w3.heap.size w3 v3) := ⟨join_below HV2.out hb⟩
     have F0 := Aside0.mk (And.intro f2 (And.intro fX (And.intro f3 f1)))
     clear f1 f2 f3 f4 f5 fX hb
     have F4 := Aside0.mk (blk_below F4.out ST.out)
     have F13 := Aside0.mk (blk_below F13.out ST.out)
     refine hK _ _ ⟨⟨_, HV3.out⟩, rfl⟩ ?_
     clear hK K ST
     ((refine takeQ (i := 1) (by rfl) (by kernel_rfl) (by kernel_rfl) (by kernel_rfl) ?_ ?_ ?_); (focus exact fun _ _ _ _ h => h); (focus exact ⟨⟨_, HV3.out⟩, rfl⟩); intro K hK; go_simp; (with_reducible refine hK _ ?_); clear hK K)
     refine hall1 (i := 11) (by kernel_rfl) (by rfl) (fun K hK => ?_)
     go_simp
     obtain ⟨v4, hv⟩ : ∃ x, v3.alloc (Obj.cells #[.string ⟨#[97]⟩, .int .i64 0, .int .i64 1, .int .i64 2, .slice (some ⟨a0, 0, none⟩) 1 c0, .slice E0 0 e0, .string ⟨#[98]⟩, .int .i64 0, .int .i64 2, .int .i64 2, .slice (some ⟨g4, 0, none⟩) 2 2, .slice none 0 0, .string ⟨#[111]⟩, .int .i64 1, .int .i64 3, .int .i64 2, .slice (some ⟨a1, 0, none⟩) 1 c1, .slice A2 0 c2, .string ⟨#[99]⟩, .int .i64 2, .int .i64 4, .int .i64 2, .slice (some ⟨b1, 0, none⟩) 1 d1, .slice B2 0 d2] 50) = x := ⟨_, rfl⟩
     rw [hv]
     obtain ⟨gR, hg⟩ : ∃ x, v3.heap.size = x := ⟨_, rfl⟩
     rw [hg]
     have F11 : Aside0 (v4.heap[gR]? = some (.cells #[.string ⟨#[97]⟩, .int .i64 0, .int .i64 1, .int .i64 2, .slice (some ⟨a0, 0, none⟩) 1 c0, .slice E0 0 e0, .string ⟨#[98]⟩, .int .i64 0, .int .i64 2, .int .i64 2, .slice (some ⟨g4, 0, none⟩) 2 2, .slice none 0 0, .string ⟨#[111]⟩, .int .i64 1, .int .i64 3, .int .i64 2, .slice (some ⟨a1, 0, none⟩) 1 c1, .slice A2 0 c2, .string ⟨#[99]⟩, .int .i64 2, .int .i64 4, .int .i64 2, .slice (some ⟨b1, 0, none⟩) 1 d1, .slice B2 0 d2] 50 (0, 0))) := ⟨by rw [← hv, ← hg]; exact blk_new _ _⟩
     have GW11 : Aside0 (W.heap.size < gR) := ⟨by have h1 := HW3.out; have h2 := HV3.out.size; omega⟩
     have ST : Aside0 (Below v3.heap.size v3 v4) := ⟨hv ▸ below1 _ _⟩
     have HV4 : Aside0 (Below w3.heap.size w3 v4) := ⟨join_below HV3.out ST.out⟩
     clear hv hg
     have F4 := Aside0.mk (blk_below F4.out ST.out)
     have F13 := Aside0.mk (blk_below F13.out ST.out)
     have G0 := Aside0.mk (Nat.lt_of_lt_of_le G0.out ST.out.size)
     have F0 := Aside0.mk (And.intro (Kd.F_below F0.out.1 ST.out) (And.intro (blk_below F0.out.2.1 ST.out) F0.out.2.2))
     refine hK _ _ ⟨⟨_, HV4.out⟩, rfl⟩ ?_
     clear hK K ST
     ((refine takeQ (i := 12) (by rfl) (by kernel_rfl) (by kernel_rfl) (by kernel_rfl) ?_ ?_ ?_); (focus exact fun _ _ _ _ h => h); (focus exact ⟨⟨_, HV4.out⟩, rfl⟩); intro K hK; go_simp; (with_reducible refine hK _ ?_); clear hK K)
     have ne4 : g4 ≠ g13 := fun e => by have h := F4.out; rw [e, F13.out] at h; simp at h
     have neR : gR ≠ g13 := fun e => by have h := F11.out; rw [e, F13.out] at h; simp at h
     have y0 : World.cell? v4 ⟨g13, 0, none⟩ = some (.slice none 0 0) := (blk_cell F13.out 0).trans rfl
     have y1 : World.cell? v4 ⟨g13, 1, none⟩ = some (.slice none 0 0) := (blk_cell F13.out 1).trans rfl
     have z0 := blk_frozen F13.out 0
     have z1 := blk_frozen F13.out 1
     have hp1 := blk_put F13.out 0 (.slice (some ⟨gR, 0, none⟩) 4 4) rfl
     have y2 : (World.setCell v4 ⟨g13, 0, none⟩ (.slice (some ⟨gR, 0, none⟩) 4 4)).cell? ⟨g13, 1, none⟩ = some (.slice none 0 0) := (blk_cell hp1 1).trans rfl
     have z2 := blk_frozen hp1 1
     have hp2 := blk_put hp1 1 (.slice none 0 0) rfl
     obtain ⟨uf, huf⟩ : ∃ x, (World.setCell v4 ⟨g13, 0, none⟩ (.slice (some ⟨gR, 0, none⟩) 4 4)).setCell ⟨g13, 1, none⟩ (.slice none 0 0) = x := ⟨_, rfl⟩
     have HBF : Aside0 (Below w3.heap.size w3 uf) := ⟨huf ▸ (HV4.out.setCell HGE.out _).setCell HGE.out _⟩
     have f11 := blk_far (p := ⟨g13, 1, none⟩) (blk_far (p := ⟨g13, 0, none⟩) F11.out neR (.slice (some ⟨gR, 0, none⟩) 4 4)) neR (.slice none 0 0)
     have f4 := blk_far (p := ⟨g13, 1, none⟩) (blk_far (p := ⟨g13, 0, none⟩) F4.out ne4 (.slice (some ⟨gR, 0, none⟩) 4 4)) ne4 (.slice none 0 0)
     have f0 := Kd.F_far (p := ⟨g13, 1, none⟩) (Kd.F_far (p := ⟨g13, 0, none⟩) F0.out.1 (fun k hk => by rw [hk]; exact FN.out) (.slice (some ⟨gR, 0, none⟩) 4 4)) (fun k hk => by rw [hk]; exact FN.out) (.slice none 0 0)
     have fx := blk_far (p := ⟨g13, 1, none⟩) (blk_far (p := ⟨g13, 0, none⟩) F0.out.2.1 FN.out (.slice (some ⟨gR, 0, none⟩) 4 4)) FN.out (.slice none 0 0)
     rw [huf] at hp2 f11 f4 f0 fx
     have HF := Aside0.mk hp2
     have HX := Aside0.mk (And.intro f11 (And.intro f4 (And.intro f0 (And.intro fx F0.out.2.2))))
     clear hp2 f11 f4 f0 fx ne4 neR hp1
     refine hall1 (i := 14) (by kernel_rfl) (by rfl) (fun K hK => ?_)
     go_simp
     clear huf y0 y1 y2 z0 z1 z2 F0 F4 F11 F13
     refine hK _ _ ⟨⟨_, HBF.out⟩, rfl⟩ ?_
     clear hK K
     refine wpAnyH_done (by kernel_rfl) ?_ _
     go_wp2
     obtain ⟨wl, hwl⟩ : ∃ x, (uf.alloc (Obj.cells #[.string ⟨#[111]⟩] 9)).alloc (Obj.cells #[.string ⟨#[99]⟩] 9) = x := ⟨_, rfl⟩
     rw [hwl]
     have ST : Aside0 (Below uf.heap.size uf wl) := ⟨hwl ▸ below_alloc (below1 _ _) _⟩
     clear hwl
     go_loopw [8] (fun i w' => i = .int .i64 0 ∧ w' = wl) (fun _ _ => 0)
     case atStart => exact ⟨rfl, rfl⟩
     case round =>
      obtain ⟨rfl, hwr⟩ := hrel
      rw [hwr]
      clear hwr
      have hg := blk_below HF.out ST.out
      have y0 : wl.cell? ⟨g13, 0, none⟩ = some (.slice (some ⟨gR, 0, none⟩) 4 4) := (blk_cell hg 0).trans rfl
      have y1 : wl.cell? ⟨g13, 1, none⟩ = some (.slice none 0 0) := (blk_cell hg 1).trans rfl
      have hw := blk_below (blk_below (blk_below (blk_below HBLK.out HB12.out) HB3.out) HBF.out) ST.out
      have x0 : wl.cell? ⟨W.heap.size, 0, none⟩ = some (.slice none 0 0) := (blk_cell hw 0).trans rfl
      have x1 : wl.cell? ⟨W.heap.size, 1, none⟩ = some (.slice none 0 0) := (blk_cell hw 1).trans rfl
      have z0 := blk_frozen hw 0
      have z1 := blk_frozen hw 1
      have hp1 := blk_put hw 0 (.slice (some ⟨gR, 0, none⟩) 4 4) rfl
      have x2 : (wl.setCell ⟨W.heap.size, 0, none⟩ (.slice (some ⟨gR, 0, none⟩) 4 4)).cell? ⟨W.heap.size, 1, none⟩ = some (.slice none 0 0) := (blk_cell hp1 1).trans rfl
      have z2 := blk_frozen hp1 1
      have HP2 := Aside0.mk (blk_put hp1 1 (.slice none 0 0) rfl)
      clear hg hw hp1
      go_wp2
      refine bodyPost_ret (results_cell_row rfl _ _ W.heap.size 26 #[.slice (some ⟨gR, 0, none⟩) 4 4, .slice none 0 0] (0, 0) _ rfl HP2.out Tryd.underlying26 rfl (by kernel_rfl)) rfl ?_
      have hx := HX.out
      have WN : ∀ g : Nat, W.heap.size < g → g ≠ W.heap.size := fun g h => by omega
      have k1 := blk_far (p := ⟨W.heap.size, 1, none⟩) (blk_far (p := ⟨W.heap.size, 0, none⟩) (blk_below hx.1 ST.out) (WN _ GW11.out) (.slice (some ⟨gR, 0, none⟩) 4 4)) (WN _ GW11.out) (.slice none 0 0)
      have k2 := blk_far (p := ⟨W.heap.size, 1, none⟩) (blk_far (p := ⟨W.heap.size, 0, none⟩) (blk_below hx.2.1 ST.out) (WN _ GW4.out) (.slice (some ⟨gR, 0, none⟩) 4 4)) (WN _ GW4.out) (.slice none 0 0)
      have k3 := f_put (m := 4) (c := 4) GW.out ⟨gR, 0, none⟩ (Kd.F_below hx.2.2.1 ST.out)
      have c3 := blk_far (p := ⟨W.heap.size, 1, none⟩) (blk_far (p := ⟨W.heap.size, 0, none⟩) (blk_below hx.2.2.2.1 ST.out) (WN _ GW.out) (.slice (some ⟨gR, 0, none⟩) 4 4)) (WN _ GW.out) (.slice none 0 0)
      have BB := join_below HB3.out (join_below HBF.out ST.out)
      have k4 := f_put (m := 4) (c := 4) N1.out ⟨gR, 0, none⟩ (Kd.F_below (Kd.F_below H1.out.2.1 HB12.out) BB)
      have c4 := blk_far (p := ⟨W.heap.size, 1, none⟩) (blk_far (p := ⟨W.heap.size, 0, none⟩) (blk_below (blk_below H1.out.2.2.1 HB12.out) BB) (WN _ N1.out) (.slice (some ⟨gR, 0, none⟩) 4 4)) (WN _ N1.out) (.slice none 0 0)
      have k5 := f_put (m := 4) (c := 4) N2.out ⟨gR, 0, none⟩ (Kd.F_below H2.out.2.1 BB)
      have c5 := blk_far (p := ⟨W.heap.size, 1, none⟩) (blk_far (p := ⟨W.heap.size, 0, none⟩) (blk_below H2.out.2.2.1 BB) (WN _ N2.out) (.slice (some ⟨gR, 0, none⟩) 4 4)) (WN _ N2.out) (.slice none 0 0)
      exact ⟨_, rfl, made_row k1 (range_new k2) hx.2.2.2.2.2 k3 (fun _ => re_none hx.2.2.2.2.1) H1.out.1 k4 (fun _ => re_none H1.out.2.2.2) H2.out.1 k5 (fun _ => re_none H2.out.2.2.2) (Nat.le_of_lt GW11.out) ⟨Nat.le_of_lt GW.out, ne_type c3 k1 (by decide)⟩ ⟨Nat.le_of_lt N1.out, ne_type c4 k1 (by decide)⟩ ⟨Nat.le_of_lt N2.out, ne_type c5 k1 (by decide)⟩ ⟨Nat.le_of_lt GW4.out, ne_type k2 k1 (by decide)⟩, ((join_below HB2.out (join_below HB3.out (join_below HBF.out ST.out))).setCell (Nat.le_refl _) _).setCell (Nat.le_refl _) _⟩
 · go_simp
   obtain ⟨v1, hv⟩ : ∃ x, wd.alloc (Obj.cells #[.slice none 0 0, .slice none 0 0] 26) = x := ⟨_, rfl⟩
   rw [hv]
   obtain ⟨g13, hg⟩ : ∃ x, wd.heap.size = x := ⟨_, rfl⟩
   rw [hg]
   have F13 : Aside0 (v1.heap[g13]? = some (.cells #[.slice none 0 0, .slice none 0 0] 26 (0, 0))) := ⟨by rw [← hv, ← hg]; exact blk_new _ _⟩
   have GW13 : Aside0 (W.heap.size < g13) := ⟨by have h1 := HW3.out; have h2 := HLAT.out.size; omega⟩
   have ST : Aside0 (Below wd.heap.size wd v1) := ⟨hv ▸ below1 _ _⟩
   have HV1 : Aside0 (Below w3.heap.size w3 v1) := ⟨join_below HLAT.out ST.out⟩
   have HGE : Aside0 (w3.heap.size ≤ g13) := ⟨hg ▸ HLAT.out.size⟩
   clear hv hg
   refine hK _ _ ⟨⟨_, HV1.out⟩, rfl⟩ ?_
   clear hK K ST
   refine hall2 (i := 0) (j := 4) (by kernel_rfl) (by rfl) (by rfl) (fun K hK => ?_) (fun K hK => ?_)
   · go_simp
     refine (one_any 97 _).mono ?_
     rintro e v2 ⟨a0, c0, E0, e0, X0, rfl, f1, f2, fX, f3, f4, f5, hb⟩
     have FN : Aside0 (a0 ≠ g13) := ⟨by have := blk_lt F13.out; omega⟩
     have G0 := Aside0.mk f5
     have GW : Aside0 (W.heap.size < a0) := ⟨by have h1 := HW3.out; have h2 := HV1.out.size; omega⟩
     have ST := Aside0.mk hb
     have HV2 : Aside0 (Below w3.heap.size w3 v2) := ⟨join_below HV1.out hb⟩
     have F0 := Aside0.mk (And.intro f2 (And.intro fX (And.intro f3 f1)))
     clear f1 f2 f3 f4 f5 fX hb
     have F13 := Aside0.mk (blk_below F13.out ST.out)
     refine hK _ _ ⟨⟨_, HV2.out⟩, rfl⟩ ?_
     clear hK K ST
     ((refine takeQ (i := 1) (by rfl) (by kernel_rfl) (by kernel_rfl) (by kernel_rfl) ?_ ?_ ?_); (focus exact fun _ _ _ _ h => h); (focus exact ⟨⟨_, HV2.out⟩, rfl⟩); intro K hK; go_simp; (with_reducible refine hK _ ?_); clear hK K)
     refine hall1 (i := 4) (by kernel_rfl) (by rfl) (fun K hK => ?_)
     go_simp
     obtain ⟨v3, hv⟩ : ∃ x, v2.alloc (Obj.cells #[.int .i32 10, .int .i32 10, .int .i32 98, .int .i32 98] 56) = x := ⟨_, rfl⟩
     rw [hv]
     obtain ⟨g4, hg⟩ : ∃ x, v2.heap.size = x := ⟨_, rfl⟩
     rw [hg]
     have F4 : Aside0 (v3.heap[g4]? = some (.cells #[.int .i32 10, .int .i32 10, .int .i32 98, .int .i32 98] 56 (0, 0))) := ⟨by rw [← hv, ← hg]; exact blk_new _ _⟩
     have GW4 : Aside0 (W.heap.size < g4) := ⟨by have h1 := HW3.out; have h2 := HV2.out.size; omega⟩
     have ST : Aside0 (Below v2.heap.size v2 v3) := ⟨hv ▸ below1 _ _⟩
     have HV3 : Aside0 (Below w3.heap.size w3 v3) := ⟨join_below HV2.out ST.out⟩
     clear hv hg
     have F13 := Aside0.mk (blk_below F13.out ST.out)
     have G0 := Aside0.mk (Nat.lt_of_lt_of_le G0.out ST.out.size)
     have F0 := Aside0.mk (And.intro (Kd.F_below F0.out.1 ST.out) (And.intro (blk_below F0.out.2.1 ST.out) F0.out.2.2))
     refine hK _ _ ⟨⟨_, HV3.out⟩, rfl⟩ ?_
     clear hK K ST
     ((refine takeQ (i := 5) (by rfl) (by kernel_rfl) (by kernel_rfl) (by kernel_rfl) ?_ ?_ ?_); (focus exact fun _ _ _ _ h => h); (focus exact ⟨⟨_, HV3.out⟩, rfl⟩); intro K hK; go_simp; (with_reducible refine hK _ ?_); clear hK K)
     ((refine takeQ (i := 6) (by rfl) (by kernel_rfl) (by kernel_rfl) (by kernel_rfl) ?_ ?_ ?_); (focus exact fun _ _ _ _ h => h); (focus exact ⟨⟨_, HV3.out⟩, rfl⟩); intro K hK; go_simp; (with_reducible refine hK _ ?_); clear hK K)
     refine hall1 (i := 11) (by kernel_rfl) (by rfl) (fun K hK => ?_)
     go_simp
     obtain ⟨v4, hv⟩ : ∃ x, v3.alloc (Obj.cells #[.string ⟨#[97]⟩, .int .i64 0, .int .i64 1, .int .i64 2, .slice (some ⟨a0, 0, none⟩) 1 c0, .slice E0 0 e0, .string ⟨#[98]⟩, .int .i64 0, .int .i64 2, .int .i64 2, .slice (some ⟨g4, 0, none⟩) 2 2, .slice none 0 0, .string ⟨#[111]⟩, .int .i64 1, .int .i64 3, .int .i64 2, .slice (some ⟨a1, 0, none⟩) 1 c1, .slice A2 0 c2, .string ⟨#[99]⟩, .int .i64 2, .int .i64 4, .int .i64 2, .slice (some ⟨b1, 0, none⟩) 1 d1, .slice B2 0 d2] 50) = x := ⟨_, rfl⟩
     rw [hv]
     obtain ⟨gR, hg⟩ : ∃ x, v3.heap.size = x := ⟨_, rfl⟩
     rw [hg]
     have F11 : Aside0 (v4.heap[gR]? = some (.cells #[.string ⟨#[97]⟩, .int .i64 0, .int .i64 1, .int .i64 2, .slice (some ⟨a0, 0, none⟩) 1 c0, .slice E0 0 e0, .string ⟨#[98]⟩, .int .i64 0, .int .i64 2, .int .i64 2, .slice (some ⟨g4, 0, none⟩) 2 2, .slice none 0 0, .string ⟨#[111]⟩, .int .i64 1, .int .i64 3, .int .i64 2, .slice (some ⟨a1, 0, none⟩) 1 c1, .slice A2 0 c2, .string ⟨#[99]⟩, .int .i64 2, .int .i64 4, .int .i64 2, .slice (some ⟨b1, 0, none⟩) 1 d1, .slice B2 0 d2] 50 (0, 0))) := ⟨by rw [← hv, ← hg]; exact blk_new _ _⟩
     have GW11 : Aside0 (W.heap.size < gR) := ⟨by have h1 := HW3.out; have h2 := HV3.out.size; omega⟩
     have ST : Aside0 (Below v3.heap.size v3 v4) := ⟨hv ▸ below1 _ _⟩
     have HV4 : Aside0 (Below w3.heap.size w3 v4) := ⟨join_below HV3.out ST.out⟩
     clear hv hg
     have F13 := Aside0.mk (blk_below F13.out ST.out)
     have G0 := Aside0.mk (Nat.lt_of_lt_of_le G0.out ST.out.size)
     have F0 := Aside0.mk (And.intro (Kd.F_below F0.out.1 ST.out) (And.intro (blk_below F0.out.2.1 ST.out) F0.out.2.2))
     have F4 := Aside0.mk (blk_below F4.out ST.out)
     refine hK _ _ ⟨⟨_, HV4.out⟩, rfl⟩ ?_
     clear hK K ST
     ((refine takeQ (i := 12) (by rfl) (by kernel_rfl) (by kernel_rfl) (by kernel_rfl) ?_ ?_ ?_); (focus exact fun _ _ _ _ h => h); (focus exact ⟨⟨_, HV4.out⟩, rfl⟩); intro K hK; go_simp; (with_reducible refine hK _ ?_); clear hK K)
     have ne4 : g4 ≠ g13 := fun e => by have h := F4.out; rw [e, F13.out] at h; simp at h
     have neR : gR ≠ g13 := fun e => by have h := F11.out; rw [e, F13.out] at h; simp at h
     have y0 : World.cell? v4 ⟨g13, 0, none⟩ = some (.slice none 0 0) := (blk_cell F13.out 0).trans rfl
     have y1 : World.cell? v4 ⟨g13, 1, none⟩ = some (.slice none 0 0) := (blk_cell F13.out 1).trans rfl
     have z0 := blk_frozen F13.out 0
     have z1 := blk_frozen F13.out 1
     have hp1 := blk_put F13.out 0 (.slice (some ⟨gR, 0, none⟩) 4 4) rfl
     have y2 : (World.setCell v4 ⟨g13, 0, none⟩ (.slice (some ⟨gR, 0, none⟩) 4 4)).cell? ⟨g13, 1, none⟩ = some (.slice none 0 0) := (blk_cell hp1 1).trans rfl
     have z2 := blk_frozen hp1 1
     have hp2 := blk_put hp1 1 (.slice none 0 0) rfl
     obtain ⟨uf, huf⟩ : ∃ x, (World.setCell v4 ⟨g13, 0, none⟩ (.slice (some ⟨gR, 0, none⟩) 4 4)).setCell ⟨g13, 1, none⟩ (.slice none 0 0) = x := ⟨_, rfl⟩
     have HBF : Aside0 (Below w3.heap.size w3 uf) := ⟨huf ▸ (HV4.out.setCell HGE.out _).setCell HGE.out _⟩
     have f11 := blk_far (p := ⟨g13, 1, none⟩) (blk_far (p := ⟨g13, 0, none⟩) F11.out neR (.slice (some ⟨gR, 0, none⟩) 4 4)) neR (.slice none 0 0)
     have f4 := blk_far (p := ⟨g13, 1, none⟩) (blk_far (p := ⟨g13, 0, none⟩) F4.out ne4 (.slice (some ⟨gR, 0, none⟩) 4 4)) ne4 (.slice none 0 0)
     have f0 := Kd.F_far (p := ⟨g13, 1, none⟩) (Kd.F_far (p := ⟨g13, 0, none⟩) F0.out.1 (fun k hk => by rw [hk]; exact FN.out) (.slice (some ⟨gR, 0, none⟩) 4 4)) (fun k hk => by rw [hk]; exact FN.out) (.slice none 0 0)
     have fx := blk_far (p := ⟨g13, 1, none⟩) (blk_far (p := ⟨g13, 0, none⟩) F0.out.2.1 FN.out (.slice (some ⟨gR, 0, none⟩) 4 4)) FN.out (.slice none 0 0)
     rw [huf] at hp2 f11 f4 f0 fx
     have HF := Aside0.mk hp2
     have HX := Aside0.mk (And.intro f11 (And.intro f4 (And.intro f0 (And.intro fx F0.out.2.2))))
     clear hp2 f11 f4 f0 fx ne4 neR hp1
     refine hall1 (i := 14) (by kernel_rfl) (by rfl) (fun K hK => ?_)
     go_simp
     clear huf y0 y1 y2 z0 z1 z2 F0 F4 F11 F13
     refine hK _ _ ⟨⟨_, HBF.out⟩, rfl⟩ ?_
     clear hK K
     refine wpAnyH_done (by kernel_rfl) ?_ _
     go_wp2
     obtain ⟨wl, hwl⟩ : ∃ x, (uf.alloc (Obj.cells #[.string ⟨#[111]⟩] 9)).alloc (Obj.cells #[.string ⟨#[99]⟩] 9) = x := ⟨_, rfl⟩
     rw [hwl]
     have ST : Aside0 (Below uf.heap.size uf wl) := ⟨hwl ▸ below_alloc (below1 _ _) _⟩
     clear hwl
     go_loopw [8] (fun i w' => i = .int .i64 0 ∧ w' = wl) (fun _ _ => 0)
     case atStart => exact ⟨rfl, rfl⟩
     case round =>
      obtain ⟨rfl, hwr⟩ := hrel
      rw [hwr]
      clear hwr
      have hg := blk_below HF.out ST.out
      have y0 : wl.cell? ⟨g13, 0, none⟩ = some (.slice (some ⟨gR, 0, none⟩) 4 4) := (blk_cell hg 0).trans rfl
      have y1 : wl.cell? ⟨g13, 1, none⟩ = some (.slice none 0 0) := (blk_cell hg 1).trans rfl
      have hw := blk_below (blk_below (blk_below (blk_below HBLK.out HB12.out) HB3.out) HBF.out) ST.out
      have x0 : wl.cell? ⟨W.heap.size, 0, none⟩ = some (.slice none 0 0) := (blk_cell hw 0).trans rfl
      have x1 : wl.cell? ⟨W.heap.size, 1, none⟩ = some (.slice none 0 0) := (blk_cell hw 1).trans rfl
      have z0 := blk_frozen hw 0
      have z1 := blk_frozen hw 1
      have hp1 := blk_put hw 0 (.slice (some ⟨gR, 0, none⟩) 4 4) rfl
      have x2 : (wl.setCell ⟨W.heap.size, 0, none⟩ (.slice (some ⟨gR, 0, none⟩) 4 4)).cell? ⟨W.heap.size, 1, none⟩ = some (.slice none 0 0) := (blk_cell hp1 1).trans rfl
      have z2 := blk_frozen hp1 1
      have HP2 := Aside0.mk (blk_put hp1 1 (.slice none 0 0) rfl)
      clear hg hw hp1
      go_wp2
      refine bodyPost_ret (results_cell_row rfl _ _ W.heap.size 26 #[.slice (some ⟨gR, 0, none⟩) 4 4, .slice none 0 0] (0, 0) _ rfl HP2.out Tryd.underlying26 rfl (by kernel_rfl)) rfl ?_
      have hx := HX.out
      have WN : ∀ g : Nat, W.heap.size < g → g ≠ W.heap.size := fun g h => by omega
      have k1 := blk_far (p := ⟨W.heap.size, 1, none⟩) (blk_far (p := ⟨W.heap.size, 0, none⟩) (blk_below hx.1 ST.out) (WN _ GW11.out) (.slice (some ⟨gR, 0, none⟩) 4 4)) (WN _ GW11.out) (.slice none 0 0)
      have k2 := blk_far (p := ⟨W.heap.size, 1, none⟩) (blk_far (p := ⟨W.heap.size, 0, none⟩) (blk_below hx.2.1 ST.out) (WN _ GW4.out) (.slice (some ⟨gR, 0, none⟩) 4 4)) (WN _ GW4.out) (.slice none 0 0)
      have k3 := f_put (m := 4) (c := 4) GW.out ⟨gR, 0, none⟩ (Kd.F_below hx.2.2.1 ST.out)
      have c3 := blk_far (p := ⟨W.heap.size, 1, none⟩) (blk_far (p := ⟨W.heap.size, 0, none⟩) (blk_below hx.2.2.2.1 ST.out) (WN _ GW.out) (.slice (some ⟨gR, 0, none⟩) 4 4)) (WN _ GW.out) (.slice none 0 0)
      have BB := join_below HB3.out (join_below HBF.out ST.out)
      have k4 := f_put (m := 4) (c := 4) N1.out ⟨gR, 0, none⟩ (Kd.F_below (Kd.F_below H1.out.2.1 HB12.out) BB)
      have c4 := blk_far (p := ⟨W.heap.size, 1, none⟩) (blk_far (p := ⟨W.heap.size, 0, none⟩) (blk_below (blk_below H1.out.2.2.1 HB12.out) BB) (WN _ N1.out) (.slice (some ⟨gR, 0, none⟩) 4 4)) (WN _ N1.out) (.slice none 0 0)
      have k5 := f_put (m := 4) (c := 4) N2.out ⟨gR, 0, none⟩ (Kd.F_below H2.out.2.1 BB)
      have c5 := blk_far (p := ⟨W.heap.size, 1, none⟩) (blk_far (p := ⟨W.heap.size, 0, none⟩) (blk_below H2.out.2.2.1 BB) (WN _ N2.out) (.slice (some ⟨gR, 0, none⟩) 4 4)) (WN _ N2.out) (.slice none 0 0)
      exact ⟨_, rfl, made_row k1 (range_new k2) hx.2.2.2.2.2 k3 (fun _ => re_none hx.2.2.2.2.1) H1.out.1 k4 (fun _ => re_none H1.out.2.2.2) H2.out.1 k5 (fun _ => re_none H2.out.2.2.2) (Nat.le_of_lt GW11.out) ⟨Nat.le_of_lt GW.out, ne_type c3 k1 (by decide)⟩ ⟨Nat.le_of_lt N1.out, ne_type c4 k1 (by decide)⟩ ⟨Nat.le_of_lt N2.out, ne_type c5 k1 (by decide)⟩ ⟨Nat.le_of_lt GW4.out, ne_type k2 k1 (by decide)⟩, ((join_below HB2.out (join_below HB3.out (join_below HBF.out ST.out))).setCell (Nat.le_refl _) _).setCell (Nat.le_refl _) _⟩
   · go_simp
     obtain ⟨v2, hv⟩ : ∃ x, v1.alloc (Obj.cells #[.int .i32 10, .int .i32 10, .int .i32 98, .int .i32 98] 56) = x := ⟨_, rfl⟩
     rw [hv]
     obtain ⟨g4, hg⟩ : ∃ x, v1.heap.size = x := ⟨_, rfl⟩
     rw [hg]
     have F4 : Aside0 (v2.heap[g4]? = some (.cells #[.int .i32 10, .int .i32 10, .int .i32 98, .int .i32 98] 56 (0, 0))) := ⟨by rw [← hv, ← hg]; exact blk_new _ _⟩
     have GW4 : Aside0 (W.heap.size < g4) := ⟨by have h1 := HW3.out; have h2 := HV1.out.size; omega⟩
     have ST : Aside0 (Below v1.heap.size v1 v2) := ⟨hv ▸ below1 _ _⟩
     have HV2 : Aside0 (Below w3.heap.size w3 v2) := ⟨join_below HV1.out ST.out⟩
     clear hv hg
     have F13 := Aside0.mk (blk_below F13.out ST.out)
     refine hK _ _ ⟨⟨_, HV2.out⟩, rfl⟩ ?_
     clear hK K ST
     ((refine takeQ (i := 5) (by rfl) (by kernel_rfl) (by kernel_rfl) (by kernel_rfl) ?_ ?_ ?_); (focus exact fun _ _ _ _ h => h); (focus exact ⟨⟨_, HV2.out⟩, rfl⟩); intro K hK; go_simp; (with_reducible refine hK _ ?_); clear hK K)
     ((refine takeQ (i := 6) (by rfl) (by kernel_rfl) (by kernel_rfl) (by kernel_rfl) ?_ ?_ ?_); (focus exact fun _ _ _ _ h => h); (focus exact ⟨⟨_, HV2.out⟩, rfl⟩); intro K hK; go_simp; (with_reducible refine hK _ ?_); clear hK K)
     refine hall1 (i := 0) (by kernel_rfl) (by rfl) (fun K hK => ?_)
     go_simp
     refine (one_any 97 _).mono ?_
     rintro e v3 ⟨a0, c0, E0, e0, X0, rfl, f1, f2, fX, f3, f4, f5, hb⟩
     have FN : Aside0 (a0 ≠ g13) := ⟨by have := blk_lt F13.out; omega⟩
     have G0 := Aside0.mk f5
     have GW : Aside0 (W.heap.size < a0) := ⟨by have h1 := HW3.out; have h2 := HV2.out.size; omega⟩
     have ST := Aside0.mk hb
     have HV3 : Aside0 (Below w3.heap.size w3 v3) := ⟨join_below HV2.out hb⟩
     have F0 := Aside0.mk (And.intro f2 (And.intro fX (And.intro f3 f1)))
     clear f1 f2 f3 f4 f5 fX hb
     have F13 := Aside0.mk (blk_below F13.out ST.out)
     have F4 := Aside0.mk (blk_below F4.out ST.out)
     refine hK _ _ ⟨⟨_, HV3.out⟩, rfl⟩ ?_
     clear hK K ST
     ((refine takeQ (i := 1) (by rfl) (by kernel_rfl) (by kernel_rfl) (by kernel_rfl) ?_ ?_ ?_); (focus exact fun _ _ _ _ h => h); (focus exact ⟨⟨_, HV3.out⟩, rfl⟩); intro K hK; go_simp; (with_reducible refine hK _ ?_); clear hK K)
     refine hall1 (i := 11) (by kernel_rfl) (by rfl) (fun K hK => ?_)
     go_simp
     obtain ⟨v4, hv⟩ : ∃ x, v3.alloc (Obj.cells #[.string ⟨#[97]⟩, .int .i64 0, .int .i64 1, .int .i64 2, .slice (some ⟨a0, 0, none⟩) 1 c0, .slice E0 0 e0, .string ⟨#[98]⟩, .int .i64 0, .int .i64 2, .int .i64 2, .slice (some ⟨g4, 0, none⟩) 2 2, .slice none 0 0, .string ⟨#[111]⟩, .int .i64 1, .int .i64 3, .int .i64 2, .slice (some ⟨a1, 0, none⟩) 1 c1, .slice A2 0 c2, .string ⟨#[99]⟩, .int .i64 2, .int .i64 4, .int .i64 2, .slice (some ⟨b1, 0, none⟩) 1 d1, .slice B2 0 d2] 50) = x := ⟨_, rfl⟩
     rw [hv]
     obtain ⟨gR, hg⟩ : ∃ x, v3.heap.size = x := ⟨_, rfl⟩
     rw [hg]
     have F11 : Aside0 (v4.heap[gR]? = some (.cells #[.string ⟨#[97]⟩, .int .i64 0, .int .i64 1, .int .i64 2, .slice (some ⟨a0, 0, none⟩) 1 c0, .slice E0 0 e0, .string ⟨#[98]⟩, .int .i64 0, .int .i64 2, .int .i64 2, .slice (some ⟨g4, 0, none⟩) 2 2, .slice none 0 0, .string ⟨#[111]⟩, .int .i64 1, .int .i64 3, .int .i64 2, .slice (some ⟨a1, 0, none⟩) 1 c1, .slice A2 0 c2, .string ⟨#[99]⟩, .int .i64 2, .int .i64 4, .int .i64 2, .slice (some ⟨b1, 0, none⟩) 1 d1, .slice B2 0 d2] 50 (0, 0))) := ⟨by rw [← hv, ← hg]; exact blk_new _ _⟩
     have GW11 : Aside0 (W.heap.size < gR) := ⟨by have h1 := HW3.out; have h2 := HV3.out.size; omega⟩
     have ST : Aside0 (Below v3.heap.size v3 v4) := ⟨hv ▸ below1 _ _⟩
     have HV4 : Aside0 (Below w3.heap.size w3 v4) := ⟨join_below HV3.out ST.out⟩
     clear hv hg
     have F13 := Aside0.mk (blk_below F13.out ST.out)
     have F4 := Aside0.mk (blk_below F4.out ST.out)
     have G0 := Aside0.mk (Nat.lt_of_lt_of_le G0.out ST.out.size)
     have F0 := Aside0.mk (And.intro (Kd.F_below F0.out.1 ST.out) (And.intro (blk_below F0.out.2.1 ST.out) F0.out.2.2))
     refine hK _ _ ⟨⟨_, HV4.out⟩, rfl⟩ ?_
     clear hK K ST
     ((refine takeQ (i := 12) (by rfl) (by kernel_rfl) (by kernel_rfl) (by kernel_rfl) ?_ ?_ ?_); (focus exact fun _ _ _ _ h => h); (focus exact ⟨⟨_, HV4.out⟩, rfl⟩); intro K hK; go_simp; (with_reducible refine hK _ ?_); clear hK K)
     have ne4 : g4 ≠ g13 := fun e => by have h := F4.out; rw [e, F13.out] at h; simp at h
     have neR : gR ≠ g13 := fun e => by have h := F11.out; rw [e, F13.out] at h; simp at h
     have y0 : World.cell? v4 ⟨g13, 0, none⟩ = some (.slice none 0 0) := (blk_cell F13.out 0).trans rfl
     have y1 : World.cell? v4 ⟨g13, 1, none⟩ = some (.slice none 0 0) := (blk_cell F13.out 1).trans rfl
     have z0 := blk_frozen F13.out 0
     have z1 := blk_frozen F13.out 1
     have hp1 := blk_put F13.out 0 (.slice (some ⟨gR, 0, none⟩) 4 4) rfl
     have y2 : (World.setCell v4 ⟨g13, 0, none⟩ (.slice (some ⟨gR, 0, none⟩) 4 4)).cell? ⟨g13, 1, none⟩ = some (.slice none 0 0) := (blk_cell hp1 1).trans rfl
     have z2 := blk_frozen hp1 1
     have hp2 := blk_put hp1 1 (.slice none 0 0) rfl
     obtain ⟨uf, huf⟩ : ∃ x, (World.setCell v4 ⟨g13, 0, none⟩ (.slice (some ⟨gR, 0, none⟩) 4 4)).setCell ⟨g13, 1, none⟩ (.slice none 0 0) = x := ⟨_, rfl⟩
     have HBF : Aside0 (Below w3.heap.size w3 uf) := ⟨huf ▸ (HV4.out.setCell HGE.out _).setCell HGE.out _⟩
     have f11 := blk_far (p := ⟨g13, 1, none⟩) (blk_far (p := ⟨g13, 0, none⟩) F11.out neR (.slice (some ⟨gR, 0, none⟩) 4 4)) neR (.slice none 0 0)
     have f4 := blk_far (p := ⟨g13, 1, none⟩) (blk_far (p := ⟨g13, 0, none⟩) F4.out ne4 (.slice (some ⟨gR, 0, none⟩) 4 4)) ne4 (.slice none 0 0)
     have f0 := Kd.F_far (p := ⟨g13, 1, none⟩) (Kd.F_far (p := ⟨g13, 0, none⟩) F0.out.1 (fun k hk => by rw [hk]; exact FN.out) (.slice (some ⟨gR, 0, none⟩) 4 4)) (fun k hk => by rw [hk]; exact FN.out) (.slice none 0 0)
     have fx := blk_far (p := ⟨g13, 1, none⟩) (blk_far (p := ⟨g13, 0, none⟩) F0.out.2.1 FN.out (.slice (some ⟨gR, 0, none⟩) 4 4)) FN.out (.slice none 0 0)
     rw [huf] at hp2 f11 f4 f0 fx
     have HF := Aside0.mk hp2
     have HX := Aside0.mk (And.intro f11 (And.intro f4 (And.intro f0 (And.intro fx F0.out.2.2))))
     clear hp2 f11 f4 f0 fx ne4 neR hp1
     refine hall1 (i := 14) (by kernel_rfl) (by rfl) (fun K hK => ?_)
     go_simp
     clear huf y0 y1 y2 z0 z1 z2 F0 F4 F11 F13
     refine hK _ _ ⟨⟨_, HBF.out⟩, rfl⟩ ?_
     clear hK K
     refine wpAnyH_done (by kernel_rfl) ?_ _
     go_wp2
     obtain ⟨wl, hwl⟩ : ∃ x, (uf.alloc (Obj.cells #[.string ⟨#[111]⟩] 9)).alloc (Obj.cells #[.string ⟨#[99]⟩] 9) = x := ⟨_, rfl⟩
     rw [hwl]
     have ST : Aside0 (Below uf.heap.size uf wl) := ⟨hwl ▸ below_alloc (below1 _ _) _⟩
     clear hwl
     go_loopw [8] (fun i w' => i = .int .i64 0 ∧ w' = wl) (fun _ _ => 0)
     case atStart => exact ⟨rfl, rfl⟩
     case round =>
      obtain ⟨rfl, hwr⟩ := hrel
      rw [hwr]
      clear hwr
      have hg := blk_below HF.out ST.out
      have y0 : wl.cell? ⟨g13, 0, none⟩ = some (.slice (some ⟨gR, 0, none⟩) 4 4) := (blk_cell hg 0).trans rfl
      have y1 : wl.cell? ⟨g13, 1, none⟩ = some (.slice none 0 0) := (blk_cell hg 1).trans rfl
      have hw := blk_below (blk_below (blk_below (blk_below HBLK.out HB12.out) HB3.out) HBF.out) ST.out
      have x0 : wl.cell? ⟨W.heap.size, 0, none⟩ = some (.slice none 0 0) := (blk_cell hw 0).trans rfl
      have x1 : wl.cell? ⟨W.heap.size, 1, none⟩ = some (.slice none 0 0) := (blk_cell hw 1).trans rfl
      have z0 := blk_frozen hw 0
      have z1 := blk_frozen hw 1
      have hp1 := blk_put hw 0 (.slice (some ⟨gR, 0, none⟩) 4 4) rfl
      have x2 : (wl.setCell ⟨W.heap.size, 0, none⟩ (.slice (some ⟨gR, 0, none⟩) 4 4)).cell? ⟨W.heap.size, 1, none⟩ = some (.slice none 0 0) := (blk_cell hp1 1).trans rfl
      have z2 := blk_frozen hp1 1
      have HP2 := Aside0.mk (blk_put hp1 1 (.slice none 0 0) rfl)
      clear hg hw hp1
      go_wp2
      refine bodyPost_ret (results_cell_row rfl _ _ W.heap.size 26 #[.slice (some ⟨gR, 0, none⟩) 4 4, .slice none 0 0] (0, 0) _ rfl HP2.out Tryd.underlying26 rfl (by kernel_rfl)) rfl ?_
      have hx := HX.out
      have WN : ∀ g : Nat, W.heap.size < g → g ≠ W.heap.size := fun g h => by omega
      have k1 := blk_far (p := ⟨W.heap.size, 1, none⟩) (blk_far (p := ⟨W.heap.size, 0, none⟩) (blk_below hx.1 ST.out) (WN _ GW11.out) (.slice (some ⟨gR, 0, none⟩) 4 4)) (WN _ GW11.out) (.slice none 0 0)
      have k2 := blk_far (p := ⟨W.heap.size, 1, none⟩) (blk_far (p := ⟨W.heap.size, 0, none⟩) (blk_below hx.2.1 ST.out) (WN _ GW4.out) (.slice (some ⟨gR, 0, none⟩) 4 4)) (WN _ GW4.out) (.slice none 0 0)
      have k3 := f_put (m := 4) (c := 4) GW.out ⟨gR, 0, none⟩ (Kd.F_below hx.2.2.1 ST.out)
      have c3 := blk_far (p := ⟨W.heap.size, 1, none⟩) (blk_far (p := ⟨W.heap.size, 0, none⟩) (blk_below hx.2.2.2.1 ST.out) (WN _ GW.out) (.slice (some ⟨gR, 0, none⟩) 4 4)) (WN _ GW.out) (.slice none 0 0)
      have BB := join_below HB3.out (join_below HBF.out ST.out)
      have k4 := f_put (m := 4) (c := 4) N1.out ⟨gR, 0, none⟩ (Kd.F_below (Kd.F_below H1.out.2.1 HB12.out) BB)
      have c4 := blk_far (p := ⟨W.heap.size, 1, none⟩) (blk_far (p := ⟨W.heap.size, 0, none⟩) (blk_below (blk_below H1.out.2.2.1 HB12.out) BB) (WN _ N1.out) (.slice (some ⟨gR, 0, none⟩) 4 4)) (WN _ N1.out) (.slice none 0 0)
      have k5 := f_put (m := 4) (c := 4) N2.out ⟨gR, 0, none⟩ (Kd.F_below H2.out.2.1 BB)
      have c5 := blk_far (p := ⟨W.heap.size, 1, none⟩) (blk_far (p := ⟨W.heap.size, 0, none⟩) (blk_below H2.out.2.2.1 BB) (WN _ N2.out) (.slice (some ⟨gR, 0, none⟩) 4 4)) (WN _ N2.out) (.slice none 0 0)
      exact ⟨_, rfl, made_row k1 (range_new k2) hx.2.2.2.2.2 k3 (fun _ => re_none hx.2.2.2.2.1) H1.out.1 k4 (fun _ => re_none H1.out.2.2.2) H2.out.1 k5 (fun _ => re_none H2.out.2.2.2) (Nat.le_of_lt GW11.out) ⟨Nat.le_of_lt GW.out, ne_type c3 k1 (by decide)⟩ ⟨Nat.le_of_lt N1.out, ne_type c4 k1 (by decide)⟩ ⟨Nat.le_of_lt N2.out, ne_type c5 k1 (by decide)⟩ ⟨Nat.le_of_lt GW4.out, ne_type k2 k1 (by decide)⟩, ((join_below HB2.out (join_below HB3.out (join_below HBF.out ST.out))).setCell (Nat.le_refl _) _).setCell (Nat.le_refl _) _⟩
end Go.Proofs.YthdfmbmbjpmlaaaDoor.Rn
end
section
set_option linter.unusedVariables false
set_option linter.unusedSimpArgs false
namespace Go.Proofs.YthdfmbmbjpmlaaaDoor.Rn
open Go Go.RowKit Go.Proofs.YthdfmbmbjpmlaaaDoorW.PrintWords Go.Proofs.YthdfmbmbjpmlaaaDoorW.PrintLast Go.Proofs.YthdfmbmbjpmlaaaDoorW.PrintMore
def tokA : Tok := ⟨⟨#[97]⟩, 0, 1, oneT 97⟩
def twiceT : List Tok := madeT ++ [tokA]
theorem rul_nil {W : World} {A : Option Addr} : kRul.C W A 0 [] := ⟨rfl, by decide, fun h0 => absurd h0 (by decide)⟩
theorem pt_nil {W : World} {A : Option Addr} : kPt.C W A 0 [] := ⟨rfl, by decide, fun h0 => absurd h0 (by decide)⟩
theorem tx_nil {W : World} {A : Option Addr} : Kd.string.C W A 0 [] := ⟨rfl, by decide, fun h0 => absurd h0 (by decide)⟩
theorem tok_nil {W : World} {A : Option Addr} : kTok.C W A 0 [] := ⟨rfl, by decide, fun h0 => absurd h0 (by decide)⟩
theorem told_count : gram_Count.f 9 7 [] [] [⟨4, [], [], []⟩] = some (2, 2) := by kernel_rfl
def ToldMid (w3 : World) (b6 : Nat) (W : World) : Prop := ∃ A c, 5 ≤ c ∧ W.heap[b6]? = some (.cells #[.slice A 5 c, .slice none 0 0] 26 (0, 0)) ∧ kTok.C W A 5 twiceT ∧ Below w3.heap.size w3 W
theorem told_end {w3 w : World} {b6 : Nat} {v : Value} (hb : Below w3.heap.size w3 w) (h6 : w3.heap.size ≤ b6) (hN : Kd.N kTok 50 w w3.heap.size (fun k => k ≠ b6) v twiceT) {u : Value} (hblk : w.heap[b6]? = some (.cells #[u, .slice none 0 0] 26 (0, 0))) :
 ToldMid w3 b6 (w.setCell ⟨b6, 0, none⟩ v) := by
 have hN2 := Kd.N_far hN (p := ⟨b6, 0, none⟩) (fun k hk => hk) v
 obtain ⟨A, c, hv⟩ := Kd.N_slice hN
 subst hv
 obtain ⟨_, h1, h2⟩ := Kd.N_reads' hN2
 exact ⟨A, c, h1, blk_put hblk 0 _ rfl, h2, hb.setCell h6 _⟩
set_option maxHeartbeats 8000000 in
set_option maxRecDepth 100000 in
theorem told_any (h0 : ChkC [] [] 6 0) (h1 : ChkC madeT [] 0 0) (h2 : ChkC twiceT [] 4 4) (W : World) (hO : OwnAt W) :
 Calls Tryd.prog 8 #[] W fun e W' => e = .returned (.bool true) ∧ Below W.heap.size W W' := by
 have H0 := Aside0.mk h0
 have H1 := Aside0.mk h1
 have H2 := Aside0.mk h2
 have HO := Aside0.mk hO
 have hu23 := Tryd.underlying23
 clear h0 h1 h2 hO
 go_enter Tryd.func8, Tryd.ntmps8
 simp only [List.append]
 go_wp2_with fail
 refine (make_nil _).mono ?_
 rintro e w1 ⟨v, rfl, hN, hb⟩
 obtain ⟨gR, cap, rfl, hg, hg2, X, hX⟩ := Kd.N_form hN (show 0 < madeT.length from by decide)
 have hl4 : madeT.length = 4 := rfl
 rw [hl4] at hN ⊢
 have HB1 := Aside0.mk hb
 have HN := Aside0.mk hN
 have HgR := Aside0.mk hg2
 clear hN hb hg hg2 hX hl4
 go_wp2_with fail
 obtain ⟨b1, hb1⟩ : ∃ x, w1.heap.size = x := ⟨_, rfl⟩
 obtain ⟨w2, hw2⟩ : ∃ x, w1.alloc (.cells #[.slice (some ⟨gR, 0, none⟩) 4 cap, .slice none 0 0] 26) = x := ⟨_, rfl⟩
 have HB2 : Aside0 (Below W.heap.size W w2) := ⟨hw2 ▸ below_alloc HB1.out _⟩
 have HN2 : Aside0 (Kd.N kTok 50 w2 W.heap.size (fun k => W.heap.size ≤ k) (.slice (some ⟨gR, 0, none⟩) 4 cap) madeT) := ⟨hw2 ▸ Kd.N_alloc HN.out _⟩
 have HT1 : Aside0 (w2.heap[b1]? = some (.cells #[.slice (some ⟨gR, 0, none⟩) 4 cap, .slice none 0 0] 26 (0, 0))) := ⟨by rw [← hw2, ← hb1]; exact blk_new _ _⟩
 have HGR : Aside0 (gR < w2.heap.size ∧ b1 < w2.heap.size ∧ gR ≠ b1) := ⟨by have := HgR.out; have h1 := blk_lt HT1.out; refine ⟨?_, h1, ?_⟩ <;> omega⟩
 clear HN HB1 HgR
 rw [hw2, hb1]
 clear hb1 hw2
 have hc0 := H0.out none 0 none 0 w2 tok_nil rul_nil (Kd.C_below HO.out HB2.out)
 refine hc0.mono ?_
 rintro e w3 ⟨rfl, hb⟩
 have HS3 := Aside0.mk hb
 have HB3 := Aside0.mk (join_below HB2.out hb)
 clear hb hc0
 go_wp2_with fail
 refine (gram_Count.calls 9 7 none 0 [] none 0 [] (some ⟨w3.heap.size, 0, none⟩) 1 [⟨4, [], [], []⟩] 2 2 _ tx_nil (Nat.le_refl _) tx_nil (Nat.le_refl _) (row_new (k := kPt) (blk_new w3 _) (by decide) (fun j x hx => ?_)) (Nat.le_refl _) told_count).mono ?_
 · match j, hx with
   | 0, hx =>
    obtain rfl := Option.some.inj hx
    refine ⟨_, rfl, k37_mk _ ⟨4, [], [], []⟩ (Nat.zero_le 0) (tx_nil (A := none)) (Nat.zero_le 0) (tx_nil (A := none)) (Nat.zero_le 0) (pt_nil (A := none)), fun i u hu => ?_⟩
    match i, hu with
    | 0, hu => exact hu
    | 1, hu => exact hu
    | 2, hu => exact hu
    | 3, hu => exact hu
    | i + 4, hu => simp at hu
   | j + 1, hx => simp at hx
 rintro e w4 ⟨rfl, hb⟩
 have HS4 := Aside0.mk (join_below HS3.out (join_below (below1 w3 _) hb))
 have HB4 := Aside0.mk (join_below HB3.out (join_below (below1 w3 _) hb))
 have hT := blk_below HT1.out HS4.out
 have y0 : w4.cell? ⟨b1, 0, none⟩ = some (.slice (some ⟨gR, 0, none⟩) 4 cap) := (blk_cell hT 0).trans rfl
 have y1 : w4.cell? ⟨b1, 1, none⟩ = some (.slice none 0 0) := (blk_cell hT 1).trans rfl
 have HT4 := Aside0.mk hT
 have HN4 : Aside0 (Kd.N kTok 50 w4 W.heap.size (fun k => W.heap.size ≤ k) (.slice (some ⟨gR, 0, none⟩) 4 cap) madeT) := ⟨Kd.N_below HN2.out HS4.out⟩
 have HG4 : Aside0 (gR < w4.heap.size ∧ b1 < w4.heap.size) := ⟨by have h1 := HGR.out; have h2 := HS4.out.size; exact ⟨by omega, by omega⟩⟩
 clear hb hT HS3 HS4 HN2 HT1 HB2 HB3
 go_upto_region 5 with (fail)
 obtain ⟨b6, hb6⟩ : ∃ x, w4.heap.size = x := ⟨_, rfl⟩
 obtain ⟨w5, hw5⟩ : ∃ x, w4.alloc (.cells #[.slice (some ⟨gR, 0, none⟩) 4 cap, .slice none 0 0] 26) = x := ⟨_, rfl⟩
 rw [hw5, hb6]
 have HT6 : Aside0 (w5.heap[b6]? = some (.cells #[.slice (some ⟨gR, 0, none⟩) 4 cap, .slice none 0 0] 26 (0, 0))) := ⟨by rw [← hw5, ← hb6]; exact blk_new _ _⟩
 have HB45 : Aside0 (Below w4.heap.size w4 w5) := ⟨hw5 ▸ below1 _ _⟩
 have HLE : Aside0 (w4.heap.size ≤ b6 ∧ b6 < w5.heap.size) := ⟨by have := blk_lt HT6.out; exact ⟨by omega, this⟩⟩
 have HT5 : Aside0 (w5.heap[b1]? = some (.cells #[.slice (some ⟨gR, 0, none⟩) 4 cap, .slice none 0 0] 26 (0, 0))) := ⟨blk_below HT4.out HB45.out⟩
 have HN5 : Aside0 (Kd.N kTok 50 w5 W.heap.size (fun k => W.heap.size ≤ k ∧ k < w4.heap.size) (.slice (some ⟨gR, 0, none⟩) 4 cap) madeT) := ⟨Kd.N_below (Kd.N_bound HN4.out) HB45.out⟩
 clear hw5 hb6 y0 y1
 go_cut [] (fun W => Aside0 (ToldMid w4 b6 W))
 case first =>
  have q0 : ∀ p : Later w4, p.wx.cell? ⟨b1, 0, none⟩ = some (.slice (some ⟨gR, 0, none⟩) 4 cap) := fun p => cell_after p.below ((blk_cell HT4.out 0).trans rfl)
  obtain ⟨cs, hcl, hFK, hcc, _⟩ := Kd.N_elem HN4.out tokA 0 (by decide) (by decide)
  have hA : madeT.getD (0 : Int).toNat tokA = tokA := rfl
  rw [hA] at hFK
  have HFK := Aside0.mk hFK
  obtain ⟨A4, c4, A5, c5, rfl, _, _, _, _⟩ := k50_open (Kd.FK_now hFK)
  have x0 : ∀ p : Later w4, p.wx.cell? ⟨gR, 0, none⟩ = some (.string tokA.f0) := fun p => cell_after p.below (hcc 0 _ rfl)
  have x1 : ∀ p : Later w4, p.wx.cell? ⟨gR, 1, none⟩ = some (.int .i64 tokA.f1) := fun p => cell_after p.below (hcc 1 _ rfl)
  have x2 : ∀ p : Later w4, p.wx.cell? ⟨gR, 2, none⟩ = some (.int .i64 tokA.f2) := fun p => cell_after p.below (hcc 2 _ rfl)
  have x3 : ∀ p : Later w4, p.wx.cell? ⟨gR, 3, none⟩ = some (.int .i64 tokA.f3.f0) := fun p => cell_after p.below (hcc 3 _ rfl)
  have x4 : ∀ p : Later w4, p.wx.cell? ⟨gR, 4, none⟩ = some (.slice A4 tokA.f3.f1.length c4) := fun p => cell_after p.below (hcc 4 _ rfl)
  have x5 : ∀ p : Later w4, p.wx.cell? ⟨gR, 5, none⟩ = some (.slice A5 tokA.f3.f2.length c5) := fun p => cell_after p.below (hcc 5 _ rfl)
  clear hcc hFK hA hcl
  obtain ⟨wd, hwd⟩ : ∃ x, w5.drew = x := ⟨_, rfl⟩
  have HL5 : Aside0 (Below w5.heap.size w5 wd) := ⟨hwd ▸ below_drew1 (Below.refl _ _)⟩
  have HL : Aside0 (Below w4.heap.size w4 wd) := ⟨join_below HB45.out HL5.out⟩
  have hund : undef = Value.tuple #[] := rfl
  refine wp_region_held (S := fun w' => ∃ p : Later w4, w' = p.wx) (by kernel_rfl) ?_
  change wpAnyH _ _ _ _ _ _ _ _ (World.drew _)
  rw [hwd]
  clear hwd
  ((refine takeQ (i := 1) (by rfl) (by kernel_rfl) (by kernel_rfl) (by kernel_rfl) ?_ ?_ ?_); (focus first | exact fun _ _ _ _ h => h | exact fun _ _ _ _ h => HPQ.out _ _ _ _ (by rfl) h); (focus exact ⟨⟨_, HL.out⟩, rfl⟩); intro K hK; go_simp; (with_reducible refine hK _ ?_); clear hK K)
  ((refine takeQ (i := 2) (by rfl) (by kernel_rfl) (by kernel_rfl) (by kernel_rfl) ?_ ?_ ?_); (focus first | exact fun _ _ _ _ h => h | exact fun _ _ _ _ h => HPQ.out _ _ _ _ (by rfl) h); (focus exact ⟨⟨_, HL.out⟩, rfl⟩); intro K hK; go_simp; (with_reducible refine hK _ ?_); clear hK K)
  ((refine takeQ (i := 4) (by rfl) (by kernel_rfl) (by kernel_rfl) (by kernel_rfl) ?_ ?_ ?_); (focus first | exact fun _ _ _ _ h => h | exact fun _ _ _ _ h => HPQ.out _ _ _ _ (by rfl) h); (focus exact ⟨⟨_, HL.out⟩, rfl⟩); intro K hK; go_simp; (with_reducible refine hK _ ?_); clear hK K)
  ((refine takeQ (i := 5) (by rfl) (by kernel_rfl) (by kernel_rfl) (by kernel_rfl) ?_ ?_ ?_); (focus first | exact fun _ _ _ _ h => h | exact fun _ _ _ _ h => HPQ.out _ _ _ _ (by rfl) h); (focus exact ⟨⟨_, HL.out⟩, rfl⟩); intro K hK; go_simp; (with_reducible refine hK _ ?_); clear hK K)
  ((refine takeQ (i := 6) (by rfl) (by kernel_rfl) (by kernel_rfl) (by kernel_rfl) ?_ ?_ ?_); (focus first | exact fun _ _ _ _ h => h | exact fun _ _ _ _ h => HPQ.out _ _ _ _ (by rfl) h); (focus exact ⟨⟨_, HL.out⟩, rfl⟩); intro K hK; go_simp; (with_reducible refine hK _ ?_); clear hK K)
  ((refine takeQ (i := 7) (by rfl) (by kernel_rfl) (by kernel_rfl) (by kernel_rfl) ?_ ?_ ?_); (focus first | exact fun _ _ _ _ h => h | exact fun _ _ _ _ h => HPQ.out _ _ _ _ (by rfl) h); (focus exact ⟨⟨_, HL.out⟩, rfl⟩); intro K hK; go_simp; (with_reducible refine hK _ ?_); clear hK K)
  clear q0 x0 x1 x2 x3 x4 x5
  have HD6 := Aside0.mk (blk_below HT6.out HL5.out)
  have HDN := Aside0.mk (Kd.N_below HN5.out HL5.out)
  have HDK : Aside0 (Kd.FK kTok wd (fun k => (W.heap.size ≤ k ∧ k ≠ gR) ∧ k < w4.heap.size) tokA [.string tokA.f0, .int .i64 tokA.f1, .int .i64 tokA.f2, .int .i64 tokA.f3.f0, .slice A4 tokA.f3.f1.length c4, .slice A5 tokA.f3.f2.length c5]) := ⟨Kd.FK_below (Kd.FK_bound HFK.out) HL.out⟩
  clear HFK HN5 HT6 HT5 HT4 HN4
  refine hall2 (i := 0) (j := 8) (by kernel_rfl) (by rfl) (by rfl) (fun K hK => ?_) (fun K hK => ?_)
  · go_simp
    obtain ⟨u1, hv⟩ : ∃ x, wd.alloc (.cells #[] 50) = x := ⟨_, rfl⟩
    rw [hv]
    obtain ⟨g0, hg⟩ : ∃ x, wd.heap.size = x := ⟨_, rfl⟩
    rw [hg]
    have ST : Aside0 (Below wd.heap.size wd u1) := ⟨hv ▸ below1 _ _⟩
    have BK : Aside0 (u1.heap[g0]? = some (.cells #[] 50 (0, 0))) := ⟨by rw [← hv, ← hg]; exact blk_new _ _⟩
    have GE0 : Aside0 (b6 < g0 ∧ w4.heap.size ≤ g0) := ⟨by have h1 := blk_lt HD6.out; have h2 := HLE.out; omega⟩
    have GS : Aside0 (wd.heap.size = g0) := ⟨hg⟩
    clear hv hg
    have HDN := Aside0.mk (Kd.N_below HDN.out ST.out)
    have HDK := Aside0.mk (Kd.FK_below HDK.out ST.out)
    have HD6 := Aside0.mk (blk_below HD6.out ST.out)
    have HL := Aside0.mk (join_below HL.out ST.out)
    have N0 : Aside0 (Kd.N kTok 50 u1 w4.heap.size (fun k => k ≠ b6) (.slice (some ⟨g0, 0, none⟩) 0 0) []) := ⟨n_empty kTok _ BK.out rfl GE0.out.2 (by have := GE0.out.1; omega)⟩
    have L0 : Aside0 (g0 < u1.heap.size) := ⟨blk_lt BK.out⟩
    clear BK ST GS
    refine hK _ _ ⟨⟨_, HL.out⟩, rfl⟩ ?_
    clear hK K
    refine hall2 (i := 3) (j := 8) (by kernel_rfl) (by rfl) (by rfl) (fun K hK => ?_) (fun K hK => ?_)
    · refine Kd.N_append_rows_step kTok w4.heap.size (by rfl) (.tmp 23) (.tmp 25) 23 50 (.agg #[.string ⟨#[]⟩, .int .i64 0, .int .i64 0, .int .i64 0, .slice none 0 0, .slice none 0 0]) 88 rfl Tryd.underlying23 (by kernel_rfl) rfl (by decide) (by decide) (.slice (some ⟨g0, 0, none⟩) 0 0) [] madeT (some ⟨gR, 0, none⟩) 4 cap (fun k => k ≠ b6) (fun k => W.heap.size ≤ k ∧ k < w4.heap.size) rfl rfl N0.out (Kd.N_F HDN.out) (fun k hk => ⟨by have := HLE.out; omega, by have := GE0.out; show ¬ some k = some g0; intro e; injection e; omega⟩) (fun k hk => by have := blk_lt HD6.out; omega) HL.out HL.out.size (by decide) ?_
      intro v3 u2 hN hB hg hat
      have ne6 : some b6 ≠ (Value.slice (some ⟨g0, 0, none⟩) 0 0).ownBlock := by have := GE0.out; show ¬ some b6 = some g0; intro e; injection e; omega
      have N3 := Aside0.mk hN
      have HD6 := Aside0.mk ((hg.block b6 (blk_lt HD6.out) ne6).trans HD6.out)
      have HL := Aside0.mk hB
      have LT3 : Aside0 (u1.heap.size ≤ u2.heap.size) := ⟨hg.size⟩
      have HDK := Aside0.mk (Kd.FK_grown HDK.out hg (fun k hk => by have h2 := GE0.out; show ¬ some k = some g0; intro e; injection e with e; omega))
      have HDN := Aside0.mk (Kd.N_grown HDN.out hg (fun k hk => by have h2 := GE0.out; show ¬ some k = some g0; intro e; injection e with e; omega))
      clear hN hB hg ne6 hat
      refine hK _ _ ⟨⟨_, HL.out⟩, rfl⟩ ?_
      clear hK K
      refine hall1 (i := 8) (by kernel_rfl) (by rfl) (fun K hK => ?_)
      go_simp
      obtain ⟨u3, hv⟩ : ∃ x, u2.alloc (.cells #[.string tokA.f0, .int .i64 tokA.f1, .int .i64 tokA.f2, .int .i64 tokA.f3.f0, .slice A4 tokA.f3.f1.length c4, .slice A5 tokA.f3.f2.length c5] 50) = x := ⟨_, rfl⟩
      rw [hv]
      obtain ⟨g8, hg⟩ : ∃ x, u2.heap.size = x := ⟨_, rfl⟩
      rw [hg]
      have ST : Aside0 (Below u2.heap.size u2 u3) := ⟨hv ▸ below1 _ _⟩
      have BK : Aside0 (u3.heap[g8]? = some (.cells #[.string tokA.f0, .int .i64 tokA.f1, .int .i64 tokA.f2, .int .i64 tokA.f3.f0, .slice A4 tokA.f3.f1.length c4, .slice A5 tokA.f3.f2.length c5] 50 (0, 0))) := ⟨by rw [← hv, ← hg]; exact blk_new _ _⟩
      have GE8 : Aside0 (b6 < g8 ∧ w4.heap.size ≤ g8) := ⟨by have h1 := blk_lt HD6.out; have h2 := HLE.out; omega⟩
      have GS : Aside0 (u2.heap.size = g8) := ⟨hg⟩
      clear hv hg
      have HDN := Aside0.mk (Kd.N_below HDN.out ST.out)
      have HDK := Aside0.mk (Kd.FK_below HDK.out ST.out)
      have HD6 := Aside0.mk (blk_below HD6.out ST.out)
      have HL := Aside0.mk (join_below HL.out ST.out)
      have F8 : Aside0 (Kd.F kTok u3 (fun q => q = g8 ∨ ((W.heap.size ≤ q ∧ q ≠ gR) ∧ q < w4.heap.size)) (some ⟨g8, 0, none⟩) 1 [tokA]) := ⟨f_one BK.out rfl HDK.out⟩
      have L8 : Aside0 (g8 < u3.heap.size) := ⟨blk_lt BK.out⟩
      have NE : Aside0 (some g8 ≠ v3.ownBlock) := ⟨fun e => by have h1 := Kd.N_lt N3.out g8 e.symm; have h2 := GS.out; omega⟩
      have N3 := Aside0.mk (Kd.N_below N3.out ST.out)
      clear BK ST GS
      refine hK _ _ ⟨⟨_, HL.out⟩, rfl⟩ ?_
      clear hK K
      refine hall1 (i := 9) (by kernel_rfl) (by rfl) (fun K hK => ?_)
      refine Kd.N_append_rows_step kTok w4.heap.size (by rfl) (.tmp 26) (.tmp 31) 23 50 (.agg #[.string ⟨#[]⟩, .int .i64 0, .int .i64 0, .int .i64 0, .slice none 0 0, .slice none 0 0]) 88 rfl Tryd.underlying23 (by kernel_rfl) rfl (by decide) (by decide) v3 madeT [tokA] (some ⟨g8, 0, none⟩) 1 1 (fun k => k ≠ b6) (fun q => q = g8 ∨ ((W.heap.size ≤ q ∧ q ≠ gR) ∧ q < w4.heap.size)) rfl rfl N3.out F8.out (fun k hk => ⟨by have := HLE.out; have := GE8.out; rcases hk with hk | hk <;> omega, by rcases hk with hk | hk; (· rw [hk]; exact NE.out); (· intro e; have := Kd.N_base N3.out k e.symm; omega)⟩) (fun k hk => by have := blk_lt HD6.out; omega) HL.out HL.out.size (by decide) ?_
      intro v9 u4 hN hB hg hat
      have N9 := Aside0.mk hN
      have HD6 := Aside0.mk ((hg.block b6 (blk_lt HD6.out) (fun e => (N3.out.1 b6 e.symm) rfl)).trans HD6.out)
      have HL := Aside0.mk hB
      clear hN hB hg hat
      refine hK _ _ ⟨⟨_, HL.out⟩, rfl⟩ ?_
      clear hK K
      ((refine takeQ (i := 10) (by rfl) (by kernel_rfl) (by kernel_rfl) (by kernel_rfl) ?_ ?_ ?_); (focus first | exact fun _ _ _ _ h => h | exact fun _ _ _ _ h => HPQ.out _ _ _ _ (by rfl) h); (focus exact ⟨⟨_, HL.out⟩, rfl⟩); intro K hK; go_simp; (with_reducible refine hK _ ?_); clear hK K)
      refine hall1 (i := 11) (by kernel_rfl) (by rfl) (fun K hK => ?_)
      obtain ⟨A9, c9, hv9⟩ := Kd.N_slice N9.out
      subst hv9
      have y0 : World.cell? u4 ⟨b6, 0, none⟩ = some (.slice (some ⟨gR, 0, none⟩) 4 cap) := (blk_cell HD6.out 0).trans rfl
      have z0 := blk_frozen HD6.out 0
      go_simp
      have HE := Aside0.mk (told_end HL.out HLE.out.1 N9.out HD6.out)
      refine hK _ _ ⟨⟨_, HE.out.elim fun _ h => h.elim fun _ h => h.2.2.2⟩, rfl⟩ ?_
      clear hK K y0 z0
      refine wpAnyH_done (by kernel_rfl) ?_ _
      go_wp2
      go_meet
      case rel => exact HE
    · go_simp
      obtain ⟨u2, hv⟩ : ∃ x, u1.alloc (.cells #[.string tokA.f0, .int .i64 tokA.f1, .int .i64 tokA.f2, .int .i64 tokA.f3.f0, .slice A4 tokA.f3.f1.length c4, .slice A5 tokA.f3.f2.length c5] 50) = x := ⟨_, rfl⟩
      rw [hv]
      obtain ⟨g8, hg⟩ : ∃ x, u1.heap.size = x := ⟨_, rfl⟩
      rw [hg]
      have ST : Aside0 (Below u1.heap.size u1 u2) := ⟨hv ▸ below1 _ _⟩
      have BK : Aside0 (u2.heap[g8]? = some (.cells #[.string tokA.f0, .int .i64 tokA.f1, .int .i64 tokA.f2, .int .i64 tokA.f3.f0, .slice A4 tokA.f3.f1.length c4, .slice A5 tokA.f3.f2.length c5] 50 (0, 0))) := ⟨by rw [← hv, ← hg]; exact blk_new _ _⟩
      have GE8 : Aside0 (b6 < g8 ∧ w4.heap.size ≤ g8) := ⟨by have h1 := blk_lt HD6.out; have h2 := HLE.out; omega⟩
      have GS : Aside0 (u1.heap.size = g8) := ⟨hg⟩
      clear hv hg
      have HDN := Aside0.mk (Kd.N_below HDN.out ST.out)
      have HDK := Aside0.mk (Kd.FK_below HDK.out ST.out)
      have HD6 := Aside0.mk (blk_below HD6.out ST.out)
      have HL := Aside0.mk (join_below HL.out ST.out)
      have F8 : Aside0 (Kd.F kTok u2 (fun q => q = g8 ∨ ((W.heap.size ≤ q ∧ q ≠ gR) ∧ q < w4.heap.size)) (some ⟨g8, 0, none⟩) 1 [tokA]) := ⟨f_one BK.out rfl HDK.out⟩
      have L8 : Aside0 (g8 < u2.heap.size) := ⟨blk_lt BK.out⟩
      have N0 := Aside0.mk (Kd.N_below N0.out ST.out)
      have NE0 : Aside0 (g8 ≠ g0) := ⟨by have h1 := L0.out; have h2 := GS.out; omega⟩
      clear BK ST GS
      refine hK _ _ ⟨⟨_, HL.out⟩, rfl⟩ ?_
      clear hK K
      refine hall1 (i := 3) (by kernel_rfl) (by rfl) (fun K hK => ?_)
      refine Kd.N_append_rows_step kTok w4.heap.size (by rfl) (.tmp 23) (.tmp 25) 23 50 (.agg #[.string ⟨#[]⟩, .int .i64 0, .int .i64 0, .int .i64 0, .slice none 0 0, .slice none 0 0]) 88 rfl Tryd.underlying23 (by kernel_rfl) rfl (by decide) (by decide) (.slice (some ⟨g0, 0, none⟩) 0 0) [] madeT (some ⟨gR, 0, none⟩) 4 cap (fun k => k ≠ b6) (fun k => W.heap.size ≤ k ∧ k < w4.heap.size) rfl rfl N0.out (Kd.N_F HDN.out) (fun k hk => ⟨by have := HLE.out; omega, by have := GE0.out; show ¬ some k = some g0; intro e; injection e; omega⟩) (fun k hk => by have := blk_lt HD6.out; omega) HL.out HL.out.size (by decide) ?_
      intro v3 u3 hN hB hg hat
      have ne6 : some b6 ≠ (Value.slice (some ⟨g0, 0, none⟩) 0 0).ownBlock := by have := GE0.out; show ¬ some b6 = some g0; intro e; injection e; omega
      have N3 := Aside0.mk hN
      have HD6 := Aside0.mk ((hg.block b6 (blk_lt HD6.out) ne6).trans HD6.out)
      have HL := Aside0.mk hB
      have LT3 : Aside0 (u2.heap.size ≤ u3.heap.size) := ⟨hg.size⟩
      have NE : Aside0 (some g8 ≠ v3.ownBlock) := ⟨by rcases hat with h | ⟨b, h, hb⟩; (· rw [h]; have := NE0.out; show ¬ some g8 = some g0; intro e; injection e; omega); (· rw [h]; have := L8.out; intro e; injection e; omega)⟩
      have F8 := Aside0.mk (Kd.F_grown F8.out hg (fun k hk => by have h1 := NE0.out; have h2 := GE0.out; show ¬ some k = some g0; intro e; injection e with e; rcases hk with hk | hk <;> omega))
      clear hN hB hg ne6 hat
      refine hK _ _ ⟨⟨_, HL.out⟩, rfl⟩ ?_
      clear hK K
      refine hall1 (i := 9) (by kernel_rfl) (by rfl) (fun K hK => ?_)
      refine Kd.N_append_rows_step kTok w4.heap.size (by rfl) (.tmp 26) (.tmp 31) 23 50 (.agg #[.string ⟨#[]⟩, .int .i64 0, .int .i64 0, .int .i64 0, .slice none 0 0, .slice none 0 0]) 88 rfl Tryd.underlying23 (by kernel_rfl) rfl (by decide) (by decide) v3 madeT [tokA] (some ⟨g8, 0, none⟩) 1 1 (fun k => k ≠ b6) (fun q => q = g8 ∨ ((W.heap.size ≤ q ∧ q ≠ gR) ∧ q < w4.heap.size)) rfl rfl N3.out F8.out (fun k hk => ⟨by have := HLE.out; have := GE8.out; rcases hk with hk | hk <;> omega, by rcases hk with hk | hk; (· rw [hk]; exact NE.out); (· intro e; have := Kd.N_base N3.out k e.symm; omega)⟩) (fun k hk => by have := blk_lt HD6.out; omega) HL.out HL.out.size (by decide) ?_
      intro v9 u4 hN hB hg hat
      have N9 := Aside0.mk hN
      have HD6 := Aside0.mk ((hg.block b6 (blk_lt HD6.out) (fun e => (N3.out.1 b6 e.symm) rfl)).trans HD6.out)
      have HL := Aside0.mk hB
      clear hN hB hg hat
      refine hK _ _ ⟨⟨_, HL.out⟩, rfl⟩ ?_
      clear hK K
      ((refine takeQ (i := 10) (by rfl) (by kernel_rfl) (by kernel_rfl) (by kernel_rfl) ?_ ?_ ?_); (focus first | exact fun _ _ _ _ h => h | exact fun _ _ _ _ h => HPQ.out _ _ _ _ (by rfl) h); (focus exact ⟨⟨_, HL.out⟩, rfl⟩); intro K hK; go_simp; (with_reducible refine hK _ ?_); clear hK K)
      refine hall1 (i := 11) (by kernel_rfl) (by rfl) (fun K hK => ?_)
      obtain ⟨A9, c9, hv9⟩ := Kd.N_slice N9.out
      subst hv9
      have y0 : World.cell? u4 ⟨b6, 0, none⟩ = some (.slice (some ⟨gR, 0, none⟩) 4 cap) := (blk_cell HD6.out 0).trans rfl
      have z0 := blk_frozen HD6.out 0
      go_simp
      have HE := Aside0.mk (told_end HL.out HLE.out.1 N9.out HD6.out)
      refine hK _ _ ⟨⟨_, HE.out.elim fun _ h => h.elim fun _ h => h.2.2.2⟩, rfl⟩ ?_
      clear hK K y0 z0
      refine wpAnyH_done (by kernel_rfl) ?_ _
      go_wp2
      go_meet
      case rel => exact HE
  · go_simp
    obtain ⟨u1, hv⟩ : ∃ x, wd.alloc (.cells #[.string tokA.f0, .int .i64 tokA.f1, .int .i64 tokA.f2, .int .i64 tokA.f3.f0, .slice A4 tokA.f3.f1.length c4, .slice A5 tokA.f3.f2.length c5] 50) = x := ⟨_, rfl⟩
    rw [hv]
    obtain ⟨g8, hg⟩ : ∃ x, wd.heap.size = x := ⟨_, rfl⟩
    rw [hg]
    have ST : Aside0 (Below wd.heap.size wd u1) := ⟨hv ▸ below1 _ _⟩
    have BK : Aside0 (u1.heap[g8]? = some (.cells #[.string tokA.f0, .int .i64 tokA.f1, .int .i64 tokA.f2, .int .i64 tokA.f3.f0, .slice A4 tokA.f3.f1.length c4, .slice A5 tokA.f3.f2.length c5] 50 (0, 0))) := ⟨by rw [← hv, ← hg]; exact blk_new _ _⟩
    have GE8 : Aside0 (b6 < g8 ∧ w4.heap.size ≤ g8) := ⟨by have h1 := blk_lt HD6.out; have h2 := HLE.out; omega⟩
    have GS : Aside0 (wd.heap.size = g8) := ⟨hg⟩
    clear hv hg
    have HDN := Aside0.mk (Kd.N_below HDN.out ST.out)
    have HDK := Aside0.mk (Kd.FK_below HDK.out ST.out)
    have HD6 := Aside0.mk (blk_below HD6.out ST.out)
    have HL := Aside0.mk (join_below HL.out ST.out)
    have F8 : Aside0 (Kd.F kTok u1 (fun q => q = g8 ∨ ((W.heap.size ≤ q ∧ q ≠ gR) ∧ q < w4.heap.size)) (some ⟨g8, 0, none⟩) 1 [tokA]) := ⟨f_one BK.out rfl HDK.out⟩
    have L8 : Aside0 (g8 < u1.heap.size) := ⟨blk_lt BK.out⟩
    clear BK ST GS
    refine hK _ _ ⟨⟨_, HL.out⟩, rfl⟩ ?_
    clear hK K
    refine hall1 (i := 0) (by kernel_rfl) (by rfl) (fun K hK => ?_)
    go_simp
    obtain ⟨u2, hv⟩ : ∃ x, u1.alloc (.cells #[] 50) = x := ⟨_, rfl⟩
    rw [hv]
    obtain ⟨g0, hg⟩ : ∃ x, u1.heap.size = x := ⟨_, rfl⟩
    rw [hg]
    have ST : Aside0 (Below u1.heap.size u1 u2) := ⟨hv ▸ below1 _ _⟩
    have BK : Aside0 (u2.heap[g0]? = some (.cells #[] 50 (0, 0))) := ⟨by rw [← hv, ← hg]; exact blk_new _ _⟩
    have GE0 : Aside0 (b6 < g0 ∧ w4.heap.size ≤ g0) := ⟨by have h1 := blk_lt HD6.out; have h2 := HLE.out; omega⟩
    have GS : Aside0 (u1.heap.size = g0) := ⟨hg⟩
    clear hv hg
    have HDN := Aside0.mk (Kd.N_below HDN.out ST.out)
    have HDK := Aside0.mk (Kd.FK_below HDK.out ST.out)
    have HD6 := Aside0.mk (blk_below HD6.out ST.out)
    have HL := Aside0.mk (join_below HL.out ST.out)
    have F8 := Aside0.mk (Kd.F_below F8.out ST.out)
    have NE0 : Aside0 (g8 ≠ g0) := ⟨by have h1 := L8.out; have h2 := GS.out; omega⟩
    have L8 := Aside0.mk (Nat.lt_of_lt_of_le L8.out ST.out.size)
    have N0 : Aside0 (Kd.N kTok 50 u2 w4.heap.size (fun k => k ≠ b6) (.slice (some ⟨g0, 0, none⟩) 0 0) []) := ⟨n_empty kTok _ BK.out rfl GE0.out.2 (by have := GE0.out.1; omega)⟩
    have L0 : Aside0 (g0 < u2.heap.size) := ⟨blk_lt BK.out⟩
    clear BK ST GS
    refine hK _ _ ⟨⟨_, HL.out⟩, rfl⟩ ?_
    clear hK K
    refine hall1 (i := 3) (by kernel_rfl) (by rfl) (fun K hK => ?_)
    refine Kd.N_append_rows_step kTok w4.heap.size (by rfl) (.tmp 23) (.tmp 25) 23 50 (.agg #[.string ⟨#[]⟩, .int .i64 0, .int .i64 0, .int .i64 0, .slice none 0 0, .slice none 0 0]) 88 rfl Tryd.underlying23 (by kernel_rfl) rfl (by decide) (by decide) (.slice (some ⟨g0, 0, none⟩) 0 0) [] madeT (some ⟨gR, 0, none⟩) 4 cap (fun k => k ≠ b6) (fun k => W.heap.size ≤ k ∧ k < w4.heap.size) rfl rfl N0.out (Kd.N_F HDN.out) (fun k hk => ⟨by have := HLE.out; omega, by have := GE0.out; show ¬ some k = some g0; intro e; injection e; omega⟩) (fun k hk => by have := blk_lt HD6.out; omega) HL.out HL.out.size (by decide) ?_
    intro v3 u3 hN hB hg hat
    have ne6 : some b6 ≠ (Value.slice (some ⟨g0, 0, none⟩) 0 0).ownBlock := by have := GE0.out; show ¬ some b6 = some g0; intro e; injection e; omega
    have N3 := Aside0.mk hN
    have HD6 := Aside0.mk ((hg.block b6 (blk_lt HD6.out) ne6).trans HD6.out)
    have HL := Aside0.mk hB
    have LT3 : Aside0 (u2.heap.size ≤ u3.heap.size) := ⟨hg.size⟩
    have NE : Aside0 (some g8 ≠ v3.ownBlock) := ⟨by rcases hat with h | ⟨b, h, hb⟩; (· rw [h]; have := NE0.out; show ¬ some g8 = some g0; intro e; injection e; omega); (· rw [h]; have := L8.out; intro e; injection e; omega)⟩
    have F8 := Aside0.mk (Kd.F_grown F8.out hg (fun k hk => by have h1 := NE0.out; have h2 := GE0.out; show ¬ some k = some g0; intro e; injection e with e; rcases hk with hk | hk <;> omega))
    clear hN hB hg ne6 hat
    refine hK _ _ ⟨⟨_, HL.out⟩, rfl⟩ ?_
    clear hK K
    refine hall1 (i := 9) (by kernel_rfl) (by rfl) (fun K hK => ?_)
    refine Kd.N_append_rows_step kTok w4.heap.size (by rfl) (.tmp 26) (.tmp 31) 23 50 (.agg #[.string ⟨#[]⟩, .int .i64 0, .int .i64 0, .int .i64 0, .slice none 0 0, .slice none 0 0]) 88 rfl Tryd.underlying23 (by kernel_rfl) rfl (by decide) (by decide) v3 madeT [tokA] (some ⟨g8, 0, none⟩) 1 1 (fun k => k ≠ b6) (fun q => q = g8 ∨ ((W.heap.size ≤ q ∧ q ≠ gR) ∧ q < w4.heap.size)) rfl rfl N3.out F8.out (fun k hk => ⟨by have := HLE.out; have := GE8.out; rcases hk with hk | hk <;> omega, by rcases hk with hk | hk; (· rw [hk]; exact NE.out); (· intro e; have := Kd.N_base N3.out k e.symm; omega)⟩) (fun k hk => by have := blk_lt HD6.out; omega) HL.out HL.out.size (by decide) ?_
    intro v9 u4 hN hB hg hat
    have N9 := Aside0.mk hN
    have HD6 := Aside0.mk ((hg.block b6 (blk_lt HD6.out) (fun e => (N3.out.1 b6 e.symm) rfl)).trans HD6.out)
    have HL := Aside0.mk hB
    clear hN hB hg hat
    refine hK _ _ ⟨⟨_, HL.out⟩, rfl⟩ ?_
    clear hK K
    ((refine takeQ (i := 10) (by rfl) (by kernel_rfl) (by kernel_rfl) (by kernel_rfl) ?_ ?_ ?_); (focus first | exact fun _ _ _ _ h => h | exact fun _ _ _ _ h => HPQ.out _ _ _ _ (by rfl) h); (focus exact ⟨⟨_, HL.out⟩, rfl⟩); intro K hK; go_simp; (with_reducible refine hK _ ?_); clear hK K)
    refine hall1 (i := 11) (by kernel_rfl) (by rfl) (fun K hK => ?_)
    obtain ⟨A9, c9, hv9⟩ := Kd.N_slice N9.out
    subst hv9
    have y0 : World.cell? u4 ⟨b6, 0, none⟩ = some (.slice (some ⟨gR, 0, none⟩) 4 cap) := (blk_cell HD6.out 0).trans rfl
    have z0 := blk_frozen HD6.out 0
    go_simp
    have HE := Aside0.mk (told_end HL.out HLE.out.1 N9.out HD6.out)
    refine hK _ _ ⟨⟨_, HE.out.elim fun _ h => h.elim fun _ h => h.2.2.2⟩, rfl⟩ ?_
    clear hK K y0 z0
    refine wpAnyH_done (by kernel_rfl) ?_ _
    go_wp2
    go_meet
    case rel => exact HE
 case rest =>
  obtain ⟨A, c, hc, h6, hC5, hB5⟩ := hcut.out
  have HC5 := Aside0.mk hC5
  have HT1 := Aside0.mk (blk_below HT4.out hB5)
  have HT6 := Aside0.mk h6
  have HOW := Aside0.mk (Kd.C_below HO.out (join_below HB4.out hB5))
  have HCR := Aside0.mk (Kd.C_below (Kd.N_reads' HN4.out).2.2 hB5)
  have HVV := Aside0.mk (join_below HB4.out hB5)
  have a0 := (blk_cell HT1.out 0).trans rfl
  have a1 := (blk_cell HT1.out 1).trans rfl
  have d0 := (blk_cell h6 0).trans rfl
  have d1 := (blk_cell h6 1).trans rfl
  clear hcut hC5 hB5 h6 HN4 HN5 HT5 HB45 HLE HG4 HGR HB4 HO H0
  go_wp2_with fail
  refine (H2.out A c none 0 _ HC5.out rul_nil HOW.out).mono ?_
  rintro e v0 ⟨he, hb⟩
  subst he
  have HT1 := Aside0.mk (blk_below HT1.out hb)
  have HT6 := Aside0.mk (blk_below HT6.out hb)
  have HOW := Aside0.mk (Kd.C_below HOW.out hb)
  have HC5 := Aside0.mk (Kd.C_below HC5.out hb)
  have HCR := Aside0.mk (Kd.C_below HCR.out hb)
  have HVV := Aside0.mk (join_below HVV.out hb)
  clear a0 a1 d0 d1 hb
  have a0 := (blk_cell HT1.out 0).trans rfl
  have a1 := (blk_cell HT1.out 1).trans rfl
  have d0 := (blk_cell HT6.out 0).trans rfl
  have d1 := (blk_cell HT6.out 1).trans rfl
  go_wp2_with fail
  refine (gmay_any madeT [] 0 0 H1.out (some ⟨gR, 0, none⟩) cap none 0 _ HCR.out rul_nil HOW.out).mono ?_
  rintro e v1 ⟨he, hb⟩
  rw [show ((0 : Int) == 0) = true from rfl] at he
  subst he
  have HT1 := Aside0.mk (blk_below HT1.out hb)
  have HT6 := Aside0.mk (blk_below HT6.out hb)
  have HOW := Aside0.mk (Kd.C_below HOW.out hb)
  have HC5 := Aside0.mk (Kd.C_below HC5.out hb)
  have HCR := Aside0.mk (Kd.C_below HCR.out hb)
  have HVV := Aside0.mk (join_below HVV.out hb)
  clear a0 a1 d0 d1 hb
  have a0 := (blk_cell HT1.out 0).trans rfl
  have a1 := (blk_cell HT1.out 1).trans rfl
  have d0 := (blk_cell HT6.out 0).trans rfl
  have d1 := (blk_cell HT6.out 1).trans rfl
  go_wp2_with fail
  refine (name_any ⟨#[97, 98, 49]⟩ (by decide) _ HOW.out).mono ?_
  rintro e v2 ⟨he, hb⟩
  rw [show nameS ⟨#[97, 98, 49]⟩ = true from by kernel_rfl] at he
  subst he
  have HT1 := Aside0.mk (blk_below HT1.out hb)
  have HT6 := Aside0.mk (blk_below HT6.out hb)
  have HOW := Aside0.mk (Kd.C_below HOW.out hb)
  have HC5 := Aside0.mk (Kd.C_below HC5.out hb)
  have HCR := Aside0.mk (Kd.C_below HCR.out hb)
  have HVV := Aside0.mk (join_below HVV.out hb)
  clear a0 a1 d0 d1 hb
  have a0 := (blk_cell HT1.out 0).trans rfl
  have a1 := (blk_cell HT1.out 1).trans rfl
  have d0 := (blk_cell HT6.out 0).trans rfl
  have d1 := (blk_cell HT6.out 1).trans rfl
  go_wp2_with fail
  refine (name_any ⟨#[116, 111, 107]⟩ (by decide) _ HOW.out).mono ?_
  rintro e v3 ⟨he, hb⟩
  rw [show nameS ⟨#[116, 111, 107]⟩ = false from by kernel_rfl] at he
  subst he
  have HT1 := Aside0.mk (blk_below HT1.out hb)
  have HT6 := Aside0.mk (blk_below HT6.out hb)
  have HOW := Aside0.mk (Kd.C_below HOW.out hb)
  have HC5 := Aside0.mk (Kd.C_below HC5.out hb)
  have HCR := Aside0.mk (Kd.C_below HCR.out hb)
  have HVV := Aside0.mk (join_below HVV.out hb)
  clear a0 a1 d0 d1 hb
  have a0 := (blk_cell HT1.out 0).trans rfl
  have a1 := (blk_cell HT1.out 1).trans rfl
  have d0 := (blk_cell HT6.out 0).trans rfl
  have d1 := (blk_cell HT6.out 1).trans rfl
  go_wp2_with fail
  refine (name_any ⟨#[49, 97]⟩ (by decide) _ HOW.out).mono ?_
  rintro e v4 ⟨he, hb⟩
  rw [show nameS ⟨#[49, 97]⟩ = false from by kernel_rfl] at he
  subst he
  have HT1 := Aside0.mk (blk_below HT1.out hb)
  have HT6 := Aside0.mk (blk_below HT6.out hb)
  have HOW := Aside0.mk (Kd.C_below HOW.out hb)
  have HC5 := Aside0.mk (Kd.C_below HC5.out hb)
  have HCR := Aside0.mk (Kd.C_below HCR.out hb)
  have HVV := Aside0.mk (join_below HVV.out hb)
  clear a0 a1 d0 d1 hb
  have a0 := (blk_cell HT1.out 0).trans rfl
  have a1 := (blk_cell HT1.out 1).trans rfl
  have d0 := (blk_cell HT6.out 0).trans rfl
  have d1 := (blk_cell HT6.out 1).trans rfl
  go_wp2_with fail
  refine (find_any madeT (some ⟨gR, 0, none⟩) none cap 0 0 ⟨#[98]⟩ _ HCR.out).mono ?_
  rintro e v5 ⟨he, hb⟩
  rw [show findS madeT ⟨#[98]⟩ 0 = 1 from by kernel_rfl] at he
  subst he
  have HT1 := Aside0.mk (blk_below HT1.out hb)
  have HT6 := Aside0.mk (blk_below HT6.out hb)
  have HOW := Aside0.mk (Kd.C_below HOW.out hb)
  have HC5 := Aside0.mk (Kd.C_below HC5.out hb)
  have HCR := Aside0.mk (Kd.C_below HCR.out hb)
  have HVV := Aside0.mk (join_below HVV.out hb)
  clear a0 a1 d0 d1 hb
  have a0 := (blk_cell HT1.out 0).trans rfl
  have a1 := (blk_cell HT1.out 1).trans rfl
  have d0 := (blk_cell HT6.out 0).trans rfl
  have d1 := (blk_cell HT6.out 1).trans rfl
  go_wp2_with fail
  refine (find_any madeT (some ⟨gR, 0, none⟩) none cap 0 0 ⟨#[122, 122]⟩ _ HCR.out).mono ?_
  rintro e v6 ⟨he, hb⟩
  rw [show findS madeT ⟨#[122, 122]⟩ 0 = -1 from by kernel_rfl] at he
  subst he
  have HT1 := Aside0.mk (blk_below HT1.out hb)
  have HT6 := Aside0.mk (blk_below HT6.out hb)
  have HOW := Aside0.mk (Kd.C_below HOW.out hb)
  have HC5 := Aside0.mk (Kd.C_below HC5.out hb)
  have HCR := Aside0.mk (Kd.C_below HCR.out hb)
  have HVV := Aside0.mk (join_below HVV.out hb)
  clear a0 a1 d0 d1 hb
  have a0 := (blk_cell HT1.out 0).trans rfl
  have a1 := (blk_cell HT1.out 1).trans rfl
  have d0 := (blk_cell HT6.out 0).trans rfl
  have d1 := (blk_cell HT6.out 1).trans rfl
  go_wp2_with fail
  refine (emp_any ⟨4, [], [], []⟩ _ _ _ (Below.refl _ _) (k37_mk _ ⟨4, [], [], []⟩ (Nat.zero_le 0) (tx_nil (A := none)) (Nat.zero_le 0) (tx_nil (A := none)) (Nat.zero_le 0) (pt_nil (A := none)))).mono ?_
  rintro e v7 ⟨he, hb⟩
  rw [show empP ⟨4, [], [], []⟩ = true from by kernel_rfl] at he
  subst he
  have HT1 := Aside0.mk (blk_below HT1.out hb)
  have HT6 := Aside0.mk (blk_below HT6.out hb)
  have HOW := Aside0.mk (Kd.C_below HOW.out hb)
  have HC5 := Aside0.mk (Kd.C_below HC5.out hb)
  have HCR := Aside0.mk (Kd.C_below HCR.out hb)
  have HVV := Aside0.mk (join_below HVV.out hb)
  clear a0 a1 d0 d1 hb
  have a0 := (blk_cell HT1.out 0).trans rfl
  have a1 := (blk_cell HT1.out 1).trans rfl
  have d0 := (blk_cell HT6.out 0).trans rfl
  have d1 := (blk_cell HT6.out 1).trans rfl
  go_wp2_with fail
  refine (same_any madeT madeT [] [] (some ⟨gR, 0, none⟩) none (some ⟨gR, 0, none⟩) none cap 0 cap 0 _ HCR.out rul_nil HCR.out rul_nil).mono ?_
  rintro e v8 ⟨he, hb⟩
  rw [show sameS madeT [] madeT [] = true from by kernel_rfl] at he
  subst he
  have HT1 := Aside0.mk (blk_below HT1.out hb)
  have HT6 := Aside0.mk (blk_below HT6.out hb)
  have HOW := Aside0.mk (Kd.C_below HOW.out hb)
  have HC5 := Aside0.mk (Kd.C_below HC5.out hb)
  have HCR := Aside0.mk (Kd.C_below HCR.out hb)
  have HVV := Aside0.mk (join_below HVV.out hb)
  clear a0 a1 d0 d1 hb
  have a0 := (blk_cell HT1.out 0).trans rfl
  have a1 := (blk_cell HT1.out 1).trans rfl
  have d0 := (blk_cell HT6.out 0).trans rfl
  have d1 := (blk_cell HT6.out 1).trans rfl
  go_wp2_with fail
  refine (same_any madeT twiceT [] [] (some ⟨gR, 0, none⟩) none A none cap 0 c 0 _ HCR.out rul_nil HC5.out rul_nil).mono ?_
  rintro e v9 ⟨he, hb⟩
  rw [show sameS madeT [] twiceT [] = false from by kernel_rfl] at he
  subst he
  have HT1 := Aside0.mk (blk_below HT1.out hb)
  have HT6 := Aside0.mk (blk_below HT6.out hb)
  have HOW := Aside0.mk (Kd.C_below HOW.out hb)
  have HC5 := Aside0.mk (Kd.C_below HC5.out hb)
  have HCR := Aside0.mk (Kd.C_below HCR.out hb)
  have HVV := Aside0.mk (join_below HVV.out hb)
  clear a0 a1 d0 d1 hb
  have a0 := (blk_cell HT1.out 0).trans rfl
  have a1 := (blk_cell HT1.out 1).trans rfl
  have d0 := (blk_cell HT6.out 0).trans rfl
  have d1 := (blk_cell HT6.out 1).trans rfl
  go_wp2
  go_ret
  exact ⟨rfl, HVV.out⟩
end Go.Proofs.YthdfmbmbjpmlaaaDoor.Rn
end
section
set_option linter.unusedVariables false
set_option linter.unusedSimpArgs false
namespace Go.Proofs.YthdfmbmbjpmlaaaDoor.Rn
open Go Go.RowKit Go.Proofs.YthdfmbmbjpmlaaaDoorW.PrintWords Go.Proofs.YthdfmbmbjpmlaaaDoorW.PrintLast Go.Proofs.YthdfmbmbjpmlaaaDoorW.PrintMore
def limB : ByteArray := ⟨#[48, 49, 50, 51, 52, 53, 54, 55, 56, 57, 97, 98, 99, 100, 101, 102, 103, 104, 105, 106]⟩
def limX (i : Nat) : Tok := ⟨⟨#[116]⟩ ++ limB.extract i (i + 1), 0, 0, oneT 120⟩
def limT : Nat → List Tok
 | 0 => madeT
 | m + 1 => limT m ++ [limX (4 + m)]
def LimAt (W w : World) (b6 b7 : Nat) (m : Nat) : Prop := ∃ A c, w.heap[b6]? = some (.cells #[.slice A (limT m).length c, .slice none 0 0] 26 (0, 0)) ∧ Kd.N kTok 50 w W.heap.size (fun q => W.heap.size ≤ q ∧ q ≠ b6) (.slice A (limT m).length c) (limT m) ∧ Below W.heap.size W w
theorem LimAt.below {W w w' : World} {b6 b7 m : Nat} (h : LimAt W w b6 b7 m) (hb : Below w.heap.size w w') : LimAt W w' b6 b7 m := by
 obtain ⟨A, c, h1, h2, h3⟩ := h
 exact ⟨A, c, blk_below h1 hb, Kd.N_below h2 hb, join_below h3 hb⟩
end Go.Proofs.YthdfmbmbjpmlaaaDoor.Rn
end
section
set_option linter.unusedVariables false
set_option linter.unusedSimpArgs false
end
section
set_option linter.unusedVariables false
set_option linter.unusedSimpArgs false
namespace Go.Proofs.YthdfmbmbjpmlaaaDoor.Rn
open Go Go.RowKit Go.Proofs.YthdfmbmbjpmlaaaDoorW.PrintWords Go.Proofs.YthdfmbmbjpmlaaaDoorW.PrintLast Go.Proofs.YthdfmbmbjpmlaaaDoorW.PrintMore
def limE : Stp := ⟨[⟨#[111]⟩], ⟨1, [], [], []⟩⟩
structure LimAt2 (w1 w : World) (gR cap : Nat) (A : Option Addr) (m c : Nat) : Prop where
 k6 : w.heap[w1.heap.size]? = some (.cells #[.slice (some ⟨gR, 0, none⟩) 4 cap, .slice none 0 0] 26 (0, 0))
 k7 : w.heap[w1.heap.size + 1]? = some (.cells #[.int .i64 0, .bool true, .slice A m c] 32 (0, 0))
 kN : Kd.N kStp 39 w w1.heap.size (fun q => w1.heap.size ≤ q ∧ q ≠ w1.heap.size ∧ q ≠ w1.heap.size + 1) (.slice A m c) (List.replicate m limE)
 kB : Below w1.heap.size w1 w
theorem LimAt2.later {w1 w w' : World} {gR cap : Nat} {A : Option Addr} {m c : Nat} (h : LimAt2 w1 w gR cap A m c) (hb : Below w.heap.size w w') : LimAt2 w1 w' gR cap A m c :=
 ⟨blk_below h.k6 hb, blk_below h.k7 hb, Kd.N_below h.kN hb, join_below h.kB hb⟩
end Go.Proofs.YthdfmbmbjpmlaaaDoor.Rn
end
section
set_option linter.unusedVariables false
set_option linter.unusedSimpArgs false
namespace Go.Proofs.YthdfmbmbjpmlaaaDoor.Ord
open Go
section
variable {P : Program} {ops : Array Oper} {md : Region.Mode} {Q : Exit → Act → World → Prop} {S : World → Prop} {L : Nat}
def Said (P : Program) (v : Value) (w : World) (r : Result Next) : Prop :=
 r = .ok (.value v) w ∨ ∃ f args, r = .ok (.enter f args) w ∧ Calls P f args w (fun e w' => e = .returned v ∧ w' = w)
def Tells (P : Program) (ops : Array Oper) (S : World → Prop) (o : Oper) (v : Value) (a : Act) : Prop :=
 (Region.wanted o (yielded ops a.tmps) = true ∧ ∀ w, S w → Said P v w ((execOp a.eval o).run P w)) ∨ (Region.wanted o (yielded ops a.tmps) = false ∧ v = undef)
theorem Tells.of_same {o : Oper} {v : Value} {a a' : Act} (h : Tells P ops S o v a) (he : execOp a'.eval o = execOp a.eval o) (hw : Region.wanted o (yielded ops a'.tmps) = Region.wanted o (yielded ops a.tmps)) : Tells P ops S o v a' := by
 unfold Tells at *
 rw [he, hw]
 exact h
theorem Tells.op {i : Nat} {o : Oper} {v : Value} {a : Act} (hi : ops[i]? = some o) (h : Tells P ops S o v a) {K : Act → World → Prop} {w : World} (hS : S w) (hK : K (a.put o.dst v) w) : wpOp P ops Q i K a w := by
 unfold wpOp
 simp only [hi]
 rcases h with ⟨hw, hv⟩ | ⟨hw, rfl⟩
 · rw [if_pos hw]
   refine .inl ?_
   unfold Oper.wp
   rcases hv w hS with hr | ⟨f, args, hr, hc⟩
   · rw [hr]
     exact hK
   · rw [hr]
     show Calls P f args w _
     refine hc.mono ?_
     rintro e w' ⟨rfl, rfl⟩
     exact hK
 · rw [if_neg (by simp [hw])]
   exact hK
theorem beside {j : Nat} {oi oj : Oper} {v : Value} {Y : Act → Prop} (hj : ops[j]? = some oj) (hap : oi.apart ops oj = true) (hsj : ∀ cs b, oj.op ≠ .select cs b)
 (keep : ∀ a u, Y a → Y (a.put oj.dst u)) (keepD : ∀ (a : Act) d, Y a → Y { a with defers := d :: a.defers })
 (hQ : ∀ c a w, Q (.panic c) (a.put oi.dst v) w → Q (.panic c) a w) {K : Act → World → Prop} {a : Act} {w : World} (hy : Y a) (h : wpOp P ops Q j K (a.put oi.dst v) w) :
 wpOp P ops Q j (fun a' w' => Y a' ∧ K (a'.put oi.dst v) w') a w := by
 obtain ⟨h1, h2, h3⟩ := Oper.apart_spec hap
 have swap : ∀ (b : Act) u, K ((b.put oi.dst v).put oj.dst u) w → K ((b.put oj.dst u).put oi.dst v) w := fun b u hk => by rw [← Act.put_comm b v u h2]; exact hk
 simp only [wpOp, hj] at h ⊢
 rw [wanted_put oj a oi.dst v h1] at h
 by_cases hw : Region.wanted oj (yielded ops a.tmps) = true
 · rw [if_pos hw] at h ⊢
   rcases h with h | ⟨hasks, hlets⟩
   · refine .inl ?_
     unfold Oper.wp at h ⊢
     rw [execOp_put oj hsj a oi.dst v h1] at h
     generalize (execOp a.eval oj).run P w = r at h ⊢
     match r, h with
     | .ok (.value u) w', h => exact ⟨keep a u hy, by rw [← Act.put_comm a v u h2]; exact h⟩
     | .ok .skip w', h => exact ⟨keep a undef hy, by rw [← Act.put_comm a v undef h2]; exact h⟩
     | .ok (.defer d) w', h =>
      refine ⟨keep _ undef (keepD a d hy), ?_⟩
      rw [← Act.put_comm _ v undef h2, ← Act.put_defers]
      exact h
     | .ok (.enter f args) w', h =>
      refine Calls.mono h fun e w'' he => ?_
      match e, he with
      | .returned u, he => exact ⟨keep a u hy, by rw [← Act.put_comm a v u h2]; exact he⟩
      | .panicked c, he => exact hQ _ _ _ he
      | .outgrown, he => exact he
     | .ok (.row row args) w', h => exact Rows.mono h fun u w'' he => ⟨keep a u hy, by rw [← Act.put_comm a v u h2]; exact he⟩
     | .halt (.panic u) w', h => exact hQ _ _ _ h
   · refine .inr ⟨?_, hlets⟩
     unfold Oper.asks at hasks ⊢
     rw [execOp_put oj hsj a oi.dst v h1] at hasks
     exact hasks
 · rw [if_neg hw] at h ⊢
   exact ⟨keep a undef hy, by rw [← Act.put_comm a v undef h2]; exact h⟩
def AnyL (P : Program) (md : Region.Mode) (ops : Array Oper) (Q : Exit → Act → World → Prop) (S : World → Prop) (L : Nat) : Nat → Array Bool → Act → World → Prop
 | 0, listed, a, w => Region.ready md ops listed = [] ∧ Q .normal a w
 | n + 1, listed, a, w => (Region.ready md ops listed = [] → Q .normal a w) ∧
  ∀ i ∈ Region.ready md ops listed, wpOp P ops Q i (fun a' w' => (i ≠ L → listed.getD L true = false → S w') ∧ AnyL P md ops Q S L n (listed.setIfInBounds i true) a' w') a w
theorem AnyL.any : ∀ (n : Nat) (listed : Array Bool) (a : Act) (w : World), AnyL P md ops Q S L n listed a w → wpAny P md ops Q n listed a w
 | 0, _, _, _, h => h
 | n + 1, _, _, _, h => ⟨h.1, fun i hi => wpOp_mono (fun a' w' h' => AnyL.any n _ a' w' h'.2) (h.2 i hi)⟩
theorem AnyL.of_any : ∀ (n : Nat) (listed : Array Bool) (a : Act) (w : World), listed.getD L true = true → wpAny P md ops Q n listed a w → AnyL P md ops Q S L n listed a w
 | 0, _, _, _, _, h => h
 | n + 1, listed, _, _, hl, h => ⟨h.1, fun i hi => wpOp_mono (fun a' w' h' => ⟨fun _ h0 => (by rw [hl] at h0; cases h0), AnyL.of_any n _ a' w' (by
     by_cases e : i = L
     · subst e
       have h1 := (mem_ready.1 hi).1
       rw [hl] at h1
       cases h1
     · rw [getD_set_ne true e]; exact hl) h'⟩) (h.2 i hi)⟩
theorem take_first {i : Nat} {oi : Oper} {v : Value} (hi : ops[i]? = some oi) (hiL : i ≠ L) (hL : ∃ oL, ops[L]? = some oL ∧ ∃ e ∈ oL.after, Region.binds md e = true ∧ e.on = i)
 (hsel : ∀ (j : Nat) (o : Oper) cs b, ops[j]? = some o → o.op ≠ .select cs b) (hQ : ∀ c a w, Q (.panic c) (a.put oi.dst v) w → Q (.panic c) a w) :
 ∀ (n : Nat) (listed : Array Bool) (a : Act) (w : World), listed.getD L true = false →
  (∀ j oj, ops[j]? = some oj → j ≠ i → listed.getD j true = false → (∀ e ∈ oj.after, Region.binds md e = true → e.on ≠ i) → oi.apart ops oj = true) →
  i ∈ Region.ready md ops listed → Tells P ops S oi v a → S w → AnyL P md ops Q S L n (listed.setIfInBounds i true) (a.put oi.dst v) w → AnyL P md ops Q S L (n + 1) listed a w := by
 intro n
 induction n with
 | zero =>
  intro listed a w hl _ hr ht hS H
  refine ⟨fun h => (by rw [h] at hr; cases hr), fun j hj => ?_⟩
  by_cases e : j = i
  · subst e
    exact ht.op hi hS ⟨fun _ _ => hS, H⟩
  · have := ready_mono hj e
    rw [H.1] at this
    cases this
 | succ n ih =>
  intro listed a w hl hfree hr ht hS H
  refine ⟨fun h => (by rw [h] at hr; cases hr), fun j hj => ?_⟩
  by_cases e : j = i
  · subst e
    exact ht.op hi hS ⟨fun _ _ => hS, H⟩
  · obtain ⟨hun, oj, hoj, hall⟩ := mem_ready.1 hj
    have hri := (mem_ready.1 hr).1
    have hnot : ∀ x ∈ oj.after, Region.binds md x = true → x.on ≠ i := fun x hx hb hxi => by
     have h1 := hall x hx hb
     rw [hxi] at h1
     rcases Nat.lt_or_ge i listed.size with h' | h'
     · simp [h'] at hri h1
       rw [hri] at h1
       cases h1
     · simp [Array.getElem?_eq_none h'] at h1
    have hjL : j ≠ L := fun he => by
     obtain ⟨oL, hoL, x, hx, hb, hxi⟩ := hL
     rw [← he, hoj] at hoL
     obtain rfl := Option.some.inj hoL
     exact hnot x hx hb hxi
    have h1 := H.2 j (ready_mono hj e)
    have hap := hfree j oj hoj e hun hnot
    obtain ⟨_, _, h3⟩ := Oper.apart_spec hap
    have h2 := beside (Y := Tells P ops S oi v) hoj hap (fun cs b => hsel j oj cs b hoj)
     (fun b u hb => hb.of_same (execOp_put oi (fun cs b => hsel i oi cs b hi) b oj.dst u h3) (wanted_put oi b oj.dst u h3)) (fun b d hb => hb.of_same rfl rfl) hQ ht h1
    refine wpOp_mono (fun a' w' h4 => ?_) h2
    have hS' : S w' := h4.2.1 hjL (by rw [getD_set_ne true hiL]; exact hl)
    refine ⟨fun _ _ => hS', ih (listed.setIfInBounds j true) a' w' (by rw [getD_set_ne true hjL]; exact hl) (fun k ok hk hki hkun hno => ?_) (ready_mono hr (Ne.symm e)) h4.1 hS' (by rw [Array.setIfInBounds_comm _ _ e]; exact h4.2.2)⟩
    refine hfree k ok hk hki ?_ hno
    by_cases hjk : j = k
    · subst hjk; exact hun
    · rw [getD_set_ne true hjk] at hkun; exact hkun
theorem region_L {id : Nat} {a : Act} {w : World} (hm : P.follows .mixedOrders = true) (h : AnyL P .any ops Q S L ops.size (Array.replicate ops.size false) a w.drew) : (Code.region id ops true).wp P Q a w :=
 wp_region_any hm (AnyL.any _ _ _ _ h)
def waits (md : Region.Mode) (ops : Array Oper) (L i : Nat) : Bool := match ops[L]? with | some o => o.after.any (fun e => Region.binds md e && e.on == i) | none => false
theorem waits_spec {i : Nat} (h : waits md ops L i = true) : ∃ oL, ops[L]? = some oL ∧ ∃ e ∈ oL.after, Region.binds md e = true ∧ e.on = i := by
 unfold waits at h
 split at h
 · rename_i o ho
   obtain ⟨e, he, hb⟩ := Array.any_eq_true'.1 h
   simp only [Bool.and_eq_true, beq_iff_eq] at hb
   exact ⟨o, ho, e, he, hb.1, hb.2⟩
 · cases h
theorem take_tells {i : Nat} {o : Oper} {n : Nat} {listed : Array Bool} {a : Act} {w : World} {v : Value} (hi : ops[i]? = some o)
 (hc : (i != L && waits md ops L i && Region.noSelect ops && Region.free md ops listed i && (Region.ready md ops listed).contains i && !listed.getD L true) = true) (hQ : ∀ v c a w, Q (.panic c) (a.put o.dst v) w → Q (.panic c) a w) (hS : S w)
 (ht : Tells P ops S o v a) (h : AnyL P md ops Q S L n (listed.setIfInBounds i true) (a.put o.dst v) w) : AnyL P md ops Q S L (n + 1) listed a w := by
 simp only [Bool.and_eq_true, bne_iff_ne, ne_eq, Bool.not_eq_true'] at hc
 obtain ⟨⟨⟨⟨⟨h1, h2⟩, h3⟩, h4⟩, h5⟩, h6⟩ := hc
 exact take_first hi h1 (waits_spec h2) (Region.noSelect_spec h3) (hQ v) n listed a w h6 (Region.free_spec hi h4) (by simpa using h5) ht hS h
theorem takeL {i : Nat} {o : Oper} {n : Nat} {listed : Array Bool} {a : Act} {w : World} (hi : ops[i]? = some o)
 (hc : (i != L && waits md ops L i && Region.noSelect ops && Region.free md ops listed i && (Region.ready md ops listed).contains i && !listed.getD L true) = true) (hQ : ∀ v c a w, Q (.panic c) (a.put o.dst v) w → Q (.panic c) a w) (hS : S w)
 (h : ∀ K : Act → Prop, (∀ a', AnyL P md ops Q S L n (listed.setIfInBounds i true) a' w → K a') → if Region.wanted o (yielded ops a.tmps) = true then ∃ v, (∀ w', S w' → (execOp a.eval o).run P w' = .ok (.value v) w') ∧ K (a.put o.dst v) else K (a.put o.dst undef)) : AnyL P md ops Q S L (n + 1) listed a w := by
 have h2 := h (fun a' => AnyL P md ops Q S L n (listed.setIfInBounds i true) a' w) (fun _ hh => hh)
 by_cases hw : Region.wanted o (yielded ops a.tmps) = true
 · rw [if_pos hw] at h2
   obtain ⟨v, hv, hk⟩ := h2
   exact take_tells hi hc hQ hS (.inl ⟨hw, fun w' hs => .inl (hv w' hs)⟩) hk
 · rw [if_neg hw] at h2
   exact take_tells hi hc hQ hS (.inr ⟨by simpa using hw, rfl⟩) h2
theorem takeC {i : Nat} {o : Oper} {n : Nat} {listed : Array Bool} {a : Act} {w : World} {f : FuncId} {args : Array Value} {v : Value} (hi : ops[i]? = some o)
 (hc : (i != L && waits md ops L i && Region.noSelect ops && Region.free md ops listed i && (Region.ready md ops listed).contains i && !listed.getD L true) = true) (hQ : ∀ v c a w, Q (.panic c) (a.put o.dst v) w → Q (.panic c) a w) (hS : S w)
 (hg : o.guard = none) (hr : ∀ w', (execOp a.eval o).run P w' = .ok (.enter f args) w') (hv : ∀ w', S w' → Calls P f args w' (fun e w2 => e = .returned v ∧ w2 = w'))
 (h : AnyL P md ops Q S L n (listed.setIfInBounds i true) (a.put o.dst v) w) : AnyL P md ops Q S L (n + 1) listed a w :=
 take_tells hi hc hQ hS (.inl ⟨by simp [Region.wanted, hg], fun w' hs => .inr ⟨f, args, hr w', hv w' hs⟩⟩) h
theorem one_op {i : Nat} {o : Oper} {K : Act → World → Prop} {a : Act} {w : World} (hi : ops[i]? = some o) (h : ∀ K' : Act → World → Prop, (∀ a' w', K a' w' → K' a' w') → if Region.wanted o (yielded ops a.tmps) = true then o.wp P a w K' Q else K' (a.put o.dst undef) w) : wpOp P ops Q i K a w := by
 have h2 := h K (fun _ _ hh => hh)
 unfold wpOp
 simp only [hi]
 by_cases hw : Region.wanted o (yielded ops a.tmps) = true
 · rw [if_pos hw] at h2 ⊢
   exact .inl h2
 · rw [if_neg hw] at h2 ⊢
   exact h2
theorem allL1 {i : Nat} {o : Oper} {n : Nat} {listed : Array Bool} {a : Act} {w : World} (hr : Region.ready md ops listed = [i]) (hi : ops[i]? = some o)
 (h : ∀ K : Act → World → Prop, (∀ a' w', S w' → AnyL P md ops Q S L n (listed.setIfInBounds i true) a' w' → K a' w') → if Region.wanted o (yielded ops a.tmps) = true then o.wp P a w K Q else K (a.put o.dst undef) w) : AnyL P md ops Q S L (n + 1) listed a w := by
 refine ⟨fun h0 => (by rw [hr] at h0; cases h0), fun m hm => ?_⟩
 rw [hr] at hm
 obtain rfl := List.mem_singleton.1 hm
 exact one_op hi (fun K hK => h K (fun a' w' hs ha => hK a' w' ⟨fun _ _ => hs, ha⟩))
theorem allL2 {i j : Nat} {o u : Oper} {n : Nat} {listed : Array Bool} {a : Act} {w : World} (hr : Region.ready md ops listed = [i, j]) (hi : ops[i]? = some o) (hj : ops[j]? = some u)
 (h1 : ∀ K : Act → World → Prop, (∀ a' w', S w' → AnyL P md ops Q S L n (listed.setIfInBounds i true) a' w' → K a' w') → if Region.wanted o (yielded ops a.tmps) = true then o.wp P a w K Q else K (a.put o.dst undef) w)
 (h2 : ∀ K : Act → World → Prop, (∀ a' w', S w' → AnyL P md ops Q S L n (listed.setIfInBounds j true) a' w' → K a' w') → if Region.wanted u (yielded ops a.tmps) = true then u.wp P a w K Q else K (a.put u.dst undef) w) : AnyL P md ops Q S L (n + 1) listed a w := by
 refine ⟨fun h0 => (by rw [hr] at h0; cases h0), fun m hm => ?_⟩
 rw [hr] at hm
 rcases List.mem_cons.1 hm with rfl | hm
 · exact one_op hi (fun K hK => h1 K (fun a' w' hs ha => hK a' w' ⟨fun _ _ => hs, ha⟩))
 · obtain rfl := List.mem_singleton.1 hm
   exact one_op hj (fun K hK => h2 K (fun a' w' hs ha => hK a' w' ⟨fun _ _ => hs, ha⟩))
theorem lastL {o : Oper} {n : Nat} {listed : Array Bool} {a : Act} {w : World} (hr : Region.ready md ops listed = [L]) (hi : ops[L]? = some o) (hl : L < listed.size)
 (h : ∀ K : Act → World → Prop, (∀ a' w', wpAnyH P md ops Q (fun _ => True) n (listed.setIfInBounds L true) a' w' → K a' w') → if Region.wanted o (yielded ops a.tmps) = true then o.wp P a w K Q else K (a.put o.dst undef) w) : AnyL P md ops Q S L (n + 1) listed a w := by
 refine ⟨fun h0 => (by rw [hr] at h0; cases h0), fun m hm => ?_⟩
 rw [hr] at hm
 obtain rfl := List.mem_singleton.1 hm
 exact one_op hi (fun K hK => h K (fun a' w' ha => hK a' w' ⟨fun hne => absurd rfl hne, AnyL.of_any _ _ _ _ (by simp [hl]) (wpAny_of_held _ _ _ _ ha)⟩))
end
end Go.Proofs.YthdfmbmbjpmlaaaDoor.Ord
end
section
set_option linter.unusedVariables false
set_option linter.unusedSimpArgs false
namespace Go.Proofs.YthdfmbmbjpmlaaaDoor.Rn
open Go Go.RowKit Go.Proofs.YthdfmbmbjpmlaaaDoorW.PrintWords Go.Proofs.YthdfmbmbjpmlaaaDoorW.PrintLast Go.Proofs.YthdfmbmbjpmlaaaDoorW.PrintMore
theorem bit_one (x : Int) : bits .and .i64 x 1 = 0 ∨ bits .and .i64 x 1 = 1 := by
 have h : bits .and .i64 x 1 = IntKind.i64.wrap ((BitVec.ofInt 64 x).toNat % 2 : Nat) := by
  show IntKind.i64.wrap ((BitVec.ofInt 64 x &&& BitVec.ofInt 64 1).toNat) = _
  rw [BitVec.toNat_and, show (BitVec.ofInt 64 1).toNat = 1 from rfl, Nat.and_one_is_mod]
 rw [h, IntKind.wrap_i64]
 omega
def pickI (n : Nat) (k : Int) : Nat := (IntKind.u64.wrap k % (n : Int)).toNat
def pickS (l : List ByteArray) (k : Int) : List ByteArray := if bits .and .i64 k 1 = 1 ∧ 1 < l.length then l else (l.take (pickI l.length k + 1)).drop (pickI l.length k)
theorem wrap_u0 (n : Int) : 0 ≤ IntKind.u64.wrap n ∧ IntKind.u64.wrap n < 18446744073709551616 := by
 rw [IntKind.wrap_u64]
 omega
theorem pickI_lt {n : Nat} (h : 0 < n) (k : Int) : pickI n k < n := by
 have h1 := wrap_u0 k
 have h2 := Int.emod_lt_of_pos (IntKind.u64.wrap k) (show (0 : Int) < n by omega)
 have h3 := Int.emod_nonneg (IntKind.u64.wrap k) (show (n : Int) ≠ 0 by omega)
 unfold pickI
 omega
theorem pickI_eq {n : Nat} (h : 0 < n) (hn : n ≤ 9223372036854775807) (k : Int) : wrap64 ((IntKind.u64.wrap k).tmod (n : Int)) = (pickI n k : Int) := by
 have h1 := wrap_u0 k
 have h2 := Int.emod_lt_of_pos (IntKind.u64.wrap k) (show (0 : Int) < n by omega)
 have h3 := Int.emod_nonneg (IntKind.u64.wrap k) (show (n : Int) ≠ 0 by omega)
 rw [Int.tmod_eq_emod_of_nonneg h1.1]
 unfold pickI wrap64
 generalize IntKind.u64.wrap k % (n : Int) = x at h2 h3
 omega
theorem pickS_pos {l : List ByteArray} (h : 0 < l.length) (k : Int) : 0 < (pickS l k).length := by
 unfold pickS
 by_cases c : bits .and .i64 k 1 = 1 ∧ 1 < l.length
 · rw [if_pos c]; exact h
 · rw [if_neg c]
   have := pickI_lt h k
   simp
   omega
theorem pickS_mem {l : List ByteArray} {k : Int} {s : ByteArray} (h : s ∈ pickS l k) : s ∈ l := by
 unfold pickS at h
 by_cases c : bits .and .i64 k 1 = 1 ∧ 1 < l.length
 · rw [if_pos c] at h; exact h
 · rw [if_neg c] at h
   exact List.mem_of_mem_take (List.mem_of_mem_drop h)
theorem pickS_nodup {l : List ByteArray} (h : l.Nodup) (k : Int) : (pickS l k).Nodup := by
 unfold pickS
 by_cases c : bits .and .i64 k 1 = 1 ∧ 1 < l.length
 · rw [if_pos c]; exact h
 · rw [if_neg c]
   exact (h.sublist (List.take_sublist _ _)).sublist (List.drop_sublist _ _)
def pickA (l : List ByteArray) (A : Option Addr) (k : Int) : Option Addr := if bits .and .i64 k 1 = 1 ∧ 1 < l.length then A else A.map fun x => x.add (pickI l.length k)
def pickC (l : List ByteArray) (c : Nat) (k : Int) : Nat := if bits .and .i64 k 1 = 1 ∧ 1 < l.length then c else c - pickI l.length k
theorem pick_le {l : List ByteArray} {c : Nat} (k : Int) (h0 : 0 < l.length) (hc : l.length ≤ c) : (pickS l k).length ≤ pickC l c k := by
 have := pickI_lt h0 k
 unfold pickS pickC
 split
 · exact hc
 · simp
   omega
theorem pick_F {l : List ByteArray} {A : Option Addr} {c : Nat} (k : Int) (h0 : 0 < l.length) (hc : l.length ≤ c) {w : World} {ok : Nat → Prop} (hF : Kd.F Kd.string w ok A l.length l) : Kd.F Kd.string w ok (pickA l A k) (pickS l k).length (pickS l k) := by
 have hlt := pickI_lt h0 k
 unfold pickS pickA
 split
 · exact hF
 · have h2 := Kd.F_mid hF (Nat.le_succ (pickI l.length k)) hlt hc
   rw [if_neg (by omega)] at h2
   have e : pickI l.length k * Kd.string.sz = pickI l.length k := Nat.mul_one _
   rw [e] at h2
   exact h2
set_option maxHeartbeats 1000000 in
set_option maxRecDepth 100000 in
theorem pick_val (l : List ByteArray) (A : Option Addr) (c : Nat) (k : Int) (W : World) (h0 : 0 < l.length) (hl : l.length ≤ 9223372036854775807) (hc : l.length ≤ c) :
 Calls Tryd.prog 18 #[.slice A l.length c, .int .i64 k] W (fun e W' => e = .returned (.slice (pickA l A k) (pickS l k).length (pickC l c k)) ∧ W' = W) := by
 have hi := pickI_eq h0 hl k
 have hlt := pickI_lt h0 k
 have HP : Aside0 (pickS l k = (if bits .and .i64 k 1 = 1 ∧ 1 < l.length then l else (l.take (pickI l.length k + 1)).drop (pickI l.length k)) ∧ pickA l A k = (if bits .and .i64 k 1 = 1 ∧ 1 < l.length then A else A.map fun x => x.add (pickI l.length k)) ∧ pickC l c k = (if bits .and .i64 k 1 = 1 ∧ 1 < l.length then c else c - pickI l.length k)) := ⟨rfl, rfl, rfl⟩
 generalize pickI l.length k = i at hi hlt HP
 have hw1 : IntKind.i64.wrap ((i : Int) + 1) = ((i + 1 : Nat) : Int) := by rw [IntKind.wrap_i64]; omega
 have hw2 : wrap64 ((i : Int) + 1) = ((i + 1 : Nat) : Int) := by unfold wrap64; omega
 have fin : ((l.take (i + 1)).drop i).length = 1 := by simp; omega
 have FIN := Aside0.mk fin
 clear fin
 have hci : c ≠ i := by omega
 rcases bit_one k with hb | hb
 · have hP := HP.out
   rw [if_neg (by omega), if_neg (by omega), if_neg (by omega)] at hP
   have HP2 := Aside0.mk hP
   clear hP HP
   go_enter Tryd.func18, Tryd.ntmps18
   go_wp2
   go_ret
   exact ⟨by rw [HP2.out.1, HP2.out.2.1, HP2.out.2.2, FIN.out]; rfl, rfl⟩
 · by_cases c1 : 1 < l.length
   · have hP := HP.out
     rw [if_pos ⟨hb, c1⟩, if_pos ⟨hb, c1⟩, if_pos ⟨hb, c1⟩] at hP
     have HP2 := Aside0.mk hP
     clear hP HP
     go_enter Tryd.func18, Tryd.ntmps18
     go_wp2
     go_ret
     exact ⟨by rw [HP2.out.1, HP2.out.2.1, HP2.out.2.2]; rfl, rfl⟩
   · have hP := HP.out
     rw [if_neg (by omega), if_neg (by omega), if_neg (by omega)] at hP
     have HP2 := Aside0.mk hP
     have hd : decide (1 < (l.length : Int)) = false := decide_eq_false (by omega)
     clear hP HP
     go_enter Tryd.func18, Tryd.ntmps18
     go_wp2
     go_ret
     exact ⟨by rw [HP2.out.1, HP2.out.2.1, HP2.out.2.2, FIN.out]; rfl, rfl⟩
end Go.Proofs.YthdfmbmbjpmlaaaDoor.Rn
end
section
set_option linter.unusedVariables false
set_option linter.unusedSimpArgs false
namespace Go.Proofs.YthdfmbmbjpmlaaaDoor.Rn
open Go Go.RowKit Go.Proofs.YthdfmbmbjpmlaaaDoorW.PrintWords Go.Proofs.YthdfmbmbjpmlaaaDoorW.PrintLast Go.Proofs.YthdfmbmbjpmlaaaDoorW.PrintMore
section
variable {P : Program} {ops : Array Oper} {o : Oper} {a : Act} {Q : Exit → Act → World → Prop} {Kc : Act → World → Prop} {α : Type}
theorem n_append_full (d : Kd α) {w0 W : World} (base : Nat) (hw : Region.wanted o (yielded ops a.tmps) = true) (s x : Operand) (t e : TypeId) (z : Value) (bytes : Nat)
 (ho : o.op = .call { callee := .builtin .append, args := #[s, x], argTypes := #[t, t] })
 (ht : P.underlying t = some (.slice e)) (hinfo : (P.info? e).map (fun i => (i.zero, i.size, i.bytes)) = some (some z, d.sz, bytes)) (hz : z.cells.size = d.sz) (hs0 : 0 < d.sz) (hb0 : 0 < bytes)
 (xs ys : List α) (ad ad' : Addr) (n m c : Nat) (ok okA okX : Nat → Prop) (hs : a.eval s = .slice (some ad) n n) (hx : a.eval x = .slice (some ad') m c)
 (HS : Kd.F d W okA (some ad) n xs) (HX : Kd.F d W okX (some ad') m ys) (hm : 0 < m) (hA : ∀ k, okA k → ok k) (hX : ∀ k, okX k → ok k) (hfresh : ∀ k, W.heap.size ≤ k → ok k)
 (HB : Below base w0 W) (hbase : base ≤ W.heap.size) (hl : (n + m) * bytes ≤ 140737488355328)
 (h : ∀ v1 w1, Kd.N d e w1 base ok v1 (xs ++ ys) → Below base w0 w1 → W.grownBy w1 none → (∃ b, v1.ownBlock = some b ∧ W.heap.size ≤ b) → Kc (a.put o.dst v1) w1) :
 if Region.wanted o (yielded ops a.tmps) = true then Oper.wp P o a W Kc Q else Kc (a.put o.dst undef) W := by
 obtain ⟨i0, hi, hzz⟩ := Option.map_eq_some_iff.1 hinfo
 simp only [Prod.mk.injEq] at hzz
 obtain ⟨hz0, hz1, hz2⟩ := hzz
 have hlx : xs.length = n := Kd.F_len HS
 have hly : ys.length = m := Kd.F_len HX
 have hlen : n + m ≤ 140737488355328 := Nat.le_trans (Nat.le_mul_of_pos_right _ hb0) hl
 obtain ⟨olds, hr1, hc1⟩ := ReadsRow.inner_ (Kd.F_rows HS)
 obtain ⟨news, hr2, hc2⟩ := ReadsRow.inner_ (Kd.F_rows HX)
 have hrep : Reps (Kd.FK d W ok) d.sz (xs ++ ys) (olds ++ news) := Kd.reps_append (hr1.imp_ (fun _ _ h => Kd.FK_mono h hA)) (hr2.imp_ (fun _ _ h => Kd.FK_mono h hX))
 obtain ⟨v1, w1, hrun, hown, hg⟩ := run_append_arg_grows (P := P) W t o.type e i0 z d.sz bytes ht hi hz0 hz1 hz2 hz hs0 ad n n olds (by rw [← hlx]; exact hr1.1) hc1 ad' m c news (by rw [← hly]; exact hr2.1) hc2 (by omega) (by unfold maxLen; omega) hl
 have hat : ∃ b, v1.ownBlock = some b ∧ W.heap.size ≤ b := by
  rcases hown.2 with ⟨_, h0⟩ | ⟨g, cap, cur, rfl, hb, _⟩
  · omega
  · exact ⟨g, rfl, hb⟩
 have hlen2 : (xs ++ ys).length = n + m := by rw [List.length_append, hlx, hly]
 have hN : Kd.N d e w1 base ok v1 (xs ++ ys) := by
  obtain ⟨b, hb, hle⟩ := hat
  refine ⟨fun k hk => by rw [hb] at hk; injection hk with hk; exact hfresh k (by omega), Kd.chunks d.sz (xs ++ ys).length (olds ++ news), Kd.chunks_length _ _ _, ⟨fun k hk => hk.symm, olds ++ news, ?_, ?_⟩, fun j y cc hy hc => ?_⟩
  · rw [Kd.chunks_length, hlen2]
    obtain ⟨h1, h2⟩ := hown
    refine ⟨h1, ?_⟩
    rcases h2 with h2 | ⟨g, cap, cur, e1, e2, e3⟩
    · exact .inl h2
    · exact .inr ⟨g, cap, cur, e1, Nat.le_trans hbase e2, e3⟩
  · exact Kd.reps_raw hrep (fun y c hk => ⟨d.K_len (Kd.FK_now hk), d.K_one (Kd.FK_now hk)⟩)
  · rw [Kd.chunks_get hc]
    refine Kd.FK_mono (Kd.FK_step (Kd.FK_bound (hrep.2 j y hy)) (fun k hk hlt => hg.block k hlt (by simp))) (fun k hk => ⟨hk.1, fun he => ?_⟩)
    rw [hb] at he
    injection he with he
    have := hk.2
    omega
 refine event_step hw (v := v1) (w1 := w1) ?_ (h v1 w1 hN (Below.grown HB hg hbase (fun k hk => by cases hk)) hg hat)
 unfold execOp
 simp only [ho, resolve, invoke, builtin, Sem.run_bind, Sem.run_pure, Result.andThen_ok, List.map_toArray, List.map_cons, List.map_nil, hs, hx, hrun]
end
end Go.Proofs.YthdfmbmbjpmlaaaDoor.Rn
end
section
set_option linter.unusedVariables false
set_option linter.unusedSimpArgs false
namespace Go.Proofs.YthdfmbmbjpmlaaaDoor.Rn
open Go Go.RowKit Go.Proofs.YthdfmbmbjpmlaaaDoorW.PrintWords Go.Proofs.YthdfmbmbjpmlaaaDoorW.PrintLast Go.Proofs.YthdfmbmbjpmlaaaDoorW.PrintMore
def ptZ : Pt := ⟨0, [], [], []⟩
def patNext (ins calls rets : List ByteArray) (xs : List Pt) (k : Int) : List Pt :=
 if IntKind.u64.wrap k % 11 < 3 ∨ xs.length = 0 ∧ 5 < IntKind.u64.wrap k % 11 then xs ++ [⟨2, pickS ins (wrap64 (k.tdiv 11)), [], []⟩]
 else if IntKind.u64.wrap k % 11 = 3 then xs ++ [⟨4, [], [], []⟩]
 else if IntKind.u64.wrap k % 11 = 4 then xs ++ [⟨1, [], [], []⟩]
 else if IntKind.u64.wrap k % 11 = 5 then xs ++ [⟨3, pickS calls (wrap64 (k.tdiv 11)), pickS rets (wrap64 (k.tdiv 13)), [⟨if bits .and .i64 (wrap64 (k.tdiv 17)) 1 = 1 then 4 else 1, [], [], []⟩]⟩]
 else if IntKind.u64.wrap k % 11 = 6 ∨ xs.length < 2 ∧ 7 < IntKind.u64.wrap k % 11 then xs.set (xs.length - 1) ⟨7, [], [], [xs.getD (xs.length - 1) ptZ]⟩
 else if IntKind.u64.wrap k % 11 = 7 then xs.set (xs.length - 1) ⟨3, pickS calls (wrap64 (k.tdiv 11)), pickS rets (wrap64 (k.tdiv 13)), [xs.getD (xs.length - 1) ptZ]⟩
 else if IntKind.u64.wrap k % 11 < 10 then xs.take (xs.length - 2) ++ [⟨5, [], [], [xs.getD (xs.length - 2) ptZ, xs.getD (xs.length - 1) ptZ]⟩]
 else xs.take (xs.length - 2) ++ [⟨6, [], [], [xs.getD (xs.length - 2) ptZ, xs.getD (xs.length - 1) ptZ]⟩]
def patRun (ins calls rets : List ByteArray) : List Pt → List Int → List Pt
 | xs, [] => xs
 | xs, k :: ks => patRun ins calls rets (patNext ins calls rets xs k) ks
def patSeq : Pt → List Pt → Pt
 | p, [] => p
 | p, x :: l => patSeq ⟨5, [], [], [p, x]⟩ l
def madeP (ins calls rets : List ByteArray) (ks : List Int) : Pt :=
 match patRun ins calls rets [] (ks.take 8) with
 | [] => ⟨4, [], [], []⟩
 | p :: l => patSeq p l
section
variable (ins calls rets : List ByteArray) (xs : List Pt) (k : Int) (v : Nat) (hv : IntKind.u64.wrap k % 11 = (v : Int))
include hv
theorem patNext_tok (h : v < 3 ∨ xs.length = 0 ∧ 5 < v) : patNext ins calls rets xs k = xs ++ [⟨2, pickS ins (wrap64 (k.tdiv 11)), [], []⟩] := by
 unfold patNext
 rw [hv, if_pos (by omega)]
theorem patNext_well (h : v = 3) : patNext ins calls rets xs k = xs ++ [⟨4, [], [], []⟩] := by
 unfold patNext
 rw [hv, if_neg (by omega), if_pos (by omega)]
theorem patNext_empty (h : v = 4) : patNext ins calls rets xs k = xs ++ [⟨1, [], [], []⟩] := by
 unfold patNext
 rw [hv, if_neg (by omega), if_neg (by omega), if_pos (by omega)]
theorem patNext_in (h : v = 5) : patNext ins calls rets xs k = xs ++ [⟨3, pickS calls (wrap64 (k.tdiv 11)), pickS rets (wrap64 (k.tdiv 13)), [⟨if bits .and .i64 (wrap64 (k.tdiv 17)) 1 = 1 then 4 else 1, [], [], []⟩]⟩] := by
 unfold patNext
 rw [hv, if_neg (by omega), if_neg (by omega), if_neg (by omega), if_pos (by omega)]
theorem patNext_star (h0 : 0 < xs.length) (h : v = 6 ∨ xs.length < 2 ∧ 7 < v) : patNext ins calls rets xs k = xs.set (xs.length - 1) ⟨7, [], [], [xs.getD (xs.length - 1) ptZ]⟩ := by
 unfold patNext
 rw [hv, if_neg (by omega), if_neg (by omega), if_neg (by omega), if_neg (by omega), if_pos (by omega)]
theorem patNext_inw (h0 : 0 < xs.length) (h : v = 7) : patNext ins calls rets xs k = xs.set (xs.length - 1) ⟨3, pickS calls (wrap64 (k.tdiv 11)), pickS rets (wrap64 (k.tdiv 13)), [xs.getD (xs.length - 1) ptZ]⟩ := by
 unfold patNext
 rw [hv, if_neg (by omega), if_neg (by omega), if_neg (by omega), if_neg (by omega), if_neg (by omega), if_pos (by omega)]
theorem patNext_seq (h0 : 1 < xs.length) (h : 7 < v ∧ v < 10) : patNext ins calls rets xs k = xs.take (xs.length - 2) ++ [⟨5, [], [], [xs.getD (xs.length - 2) ptZ, xs.getD (xs.length - 1) ptZ]⟩] := by
 unfold patNext
 rw [hv, if_neg (by omega), if_neg (by omega), if_neg (by omega), if_neg (by omega), if_neg (by omega), if_neg (by omega), if_pos (by omega)]
theorem patNext_alt (h0 : 1 < xs.length) (h : v = 10) : patNext ins calls rets xs k = xs.take (xs.length - 2) ++ [⟨6, [], [], [xs.getD (xs.length - 2) ptZ, xs.getD (xs.length - 1) ptZ]⟩] := by
 unfold patNext
 rw [hv, if_neg (by omega), if_neg (by omega), if_neg (by omega), if_neg (by omega), if_neg (by omega), if_neg (by omega), if_neg (by omega)]
end
theorem patRun_step {ins calls rets : List ByteArray} {ks : List Int} {xs : List Pt} {m : Nat} {k : Int} (hk : ks[m]? = some k) : patRun ins calls rets xs (ks.drop m) = patRun ins calls rets (patNext ins calls rets xs k) (ks.drop (m + 1)) := by
 obtain ⟨h, e⟩ := List.getElem?_eq_some_iff.1 hk
 rw [List.drop_eq_getElem_cons h, patRun, e]
end Go.Proofs.YthdfmbmbjpmlaaaDoor.Rn
end
section
set_option linter.unusedVariables false
set_option linter.unusedSimpArgs false
namespace Go.Proofs.YthdfmbmbjpmlaaaDoor.Ord
open Go
section
variable {P : Program} {ops : Array Oper} {md : Region.Mode} {Q : Exit → Act → World → Prop} {S : World → Prop} {L : Nat}
inductive Chain (md : Region.Mode) (ops : Array Oper) (i : Nat) : Nat → Prop
 | one {k : Nat} {o : Oper} {e : _} : ops[k]? = some o → e ∈ o.after → Region.binds md e = true → e.on = i → Chain md ops i k
 | more {k : Nat} {o : Oper} {e : _} : ops[k]? = some o → e ∈ o.after → Region.binds md e = true → Chain md ops i e.on → Chain md ops i k
def Closed (md : Region.Mode) (ops : Array Oper) (listed : Array Bool) : Prop := ∀ k o, ops[k]? = some o → listed.getD k true = true → ∀ e ∈ o.after, Region.binds md e = true → listed.getD e.on true = true
theorem Chain.listed {i k : Nat} {listed : Array Bool} (hc : Chain md ops i k) (hcl : Closed md ops listed) (hd : ∀ o, ops[k]? = some o → ∀ e ∈ o.after, Region.binds md e = true → listed.getD e.on true = true) : listed.getD i true = true := by
 induction hc with
 | one ho he hb hi => exact hi ▸ hd _ ho _ he hb
 | more ho he hb _ ih => exact ih (fun o' ho' => hcl _ o' ho' (hd _ ho _ he hb))
theorem ready_deps {j : Nat} {listed : Array Bool} (h : j ∈ Region.ready md ops listed) : listed.getD j true = false ∧ ∀ o, ops[j]? = some o → ∀ e ∈ o.after, Region.binds md e = true → listed.getD e.on true = true := by
 obtain ⟨h1, oj, hoj, hall⟩ := mem_ready.1 h
 refine ⟨h1, fun o ho e he hb => ?_⟩
 rw [hoj] at ho
 obtain rfl := Option.some.inj ho
 have h2 := hall e he hb
 rcases Nat.lt_or_ge e.on listed.size with h' | h'
 · simp [h'] at h2 ⊢
   exact h2
 · simp [Array.getElem?_eq_none h'] at h2 ⊢
theorem Closed.set {j : Nat} {listed : Array Bool} (hcl : Closed md ops listed) (hj : j ∈ Region.ready md ops listed) : Closed md ops (listed.setIfInBounds j true) := by
 have up : ∀ x, listed.getD x true = true → (listed.setIfInBounds j true).getD x true = true := fun x hx => by
  by_cases e : j = x
  · subst e
    simp [Array.getD_eq_getD_getElem?, Array.getElem?_setIfInBounds]
    by_cases h : j < listed.size <;> simp [h]
  · rw [getD_set_ne true e]; exact hx
 intro k o ho hk e he hb
 refine up _ ?_
 by_cases e1 : j = k
 · subst e1
   exact (ready_deps hj).2 o ho e he hb
 · rw [getD_set_ne true e1] at hk
   exact hcl k o ho hk e he hb
theorem take_firstT {i : Nat} {oi : Oper} {v : Value} (hi : ops[i]? = some oi) (hiL : i ≠ L) (hL : Chain md ops i L)
 (hsel : ∀ (j : Nat) (o : Oper) cs b, ops[j]? = some o → o.op ≠ .select cs b) (hQ : ∀ c a w, Q (.panic c) (a.put oi.dst v) w → Q (.panic c) a w) :
 ∀ (n : Nat) (listed : Array Bool) (a : Act) (w : World), Closed md ops listed → listed.getD L true = false →
  (∀ j oj, ops[j]? = some oj → j ≠ i → listed.getD j true = false → (∀ e ∈ oj.after, Region.binds md e = true → e.on ≠ i) → oi.apart ops oj = true) →
  i ∈ Region.ready md ops listed → Tells P ops S oi v a → S w → AnyL P md ops Q S L n (listed.setIfInBounds i true) (a.put oi.dst v) w → AnyL P md ops Q S L (n + 1) listed a w := by
 intro n
 induction n with
 | zero =>
  intro listed a w hcl hl _ hr ht hS H
  refine ⟨fun h => (by rw [h] at hr; cases hr), fun j hj => ?_⟩
  by_cases e : j = i
  · subst e
    exact ht.op hi hS ⟨fun _ _ => hS, H⟩
  · have := ready_mono hj e
    rw [H.1] at this
    cases this
 | succ n ih =>
  intro listed a w hcl hl hfree hr ht hS H
  refine ⟨fun h => (by rw [h] at hr; cases hr), fun j hj => ?_⟩
  by_cases e : j = i
  · subst e
    exact ht.op hi hS ⟨fun _ _ => hS, H⟩
  · obtain ⟨hun, oj, hoj, hall⟩ := mem_ready.1 hj
    have hri := (ready_deps hr).1
    have hnot : ∀ x ∈ oj.after, Region.binds md x = true → x.on ≠ i := fun x hx hb hxi => by
     have h1 := (ready_deps hj).2 oj hoj x hx hb
     rw [hxi, hri] at h1
     cases h1
    have hjL : j ≠ L := fun he => by
     have h1 := hL.listed hcl (he ▸ (ready_deps hj).2)
     rw [hri] at h1
     cases h1
    have h1 := H.2 j (ready_mono hj e)
    have hap := hfree j oj hoj e hun hnot
    obtain ⟨_, _, h3⟩ := Oper.apart_spec hap
    have h2 := beside (Y := Tells P ops S oi v) hoj hap (fun cs b => hsel j oj cs b hoj)
     (fun b u hb => hb.of_same (execOp_put oi (fun cs b => hsel i oi cs b hi) b oj.dst u h3) (wanted_put oi b oj.dst u h3)) (fun b d hb => hb.of_same rfl rfl) hQ ht h1
    refine wpOp_mono (fun a' w' h4 => ?_) h2
    have hS' : S w' := h4.2.1 hjL (by rw [getD_set_ne true hiL]; exact hl)
    refine ⟨fun _ _ => hS', ih (listed.setIfInBounds j true) a' w' (hcl.set hj) (by rw [getD_set_ne true hjL]; exact hl) (fun k ok hk hki hkun hno => ?_) (ready_mono hr (Ne.symm e)) h4.1 hS' (by rw [Array.setIfInBounds_comm _ _ e]; exact h4.2.2)⟩
    refine hfree k ok hk hki ?_ hno
    by_cases hjk : j = k
    · subst hjk; exact hun
    · rw [getD_set_ne true hjk] at hkun; exact hkun
def waitsT (md : Region.Mode) (ops : Array Oper) (i : Nat) : Nat → Nat → Bool
 | 0, _ => false
 | n + 1, k => match ops[k]? with | some o => o.after.any (fun e => Region.binds md e && (e.on == i || waitsT md ops i n e.on)) | none => false
theorem waitsT_spec {i : Nat} : ∀ (n k : Nat), waitsT md ops i n k = true → Chain md ops i k
 | 0, _, h => by cases h
 | n + 1, k, h => by
  unfold waitsT at h
  split at h
  · rename_i o ho
    obtain ⟨e, he, hb⟩ := Array.any_eq_true'.1 h
    simp only [Bool.and_eq_true, Bool.or_eq_true, beq_iff_eq] at hb
    rcases hb.2 with h1 | h1
    · exact .one ho he hb.1 h1
    · exact .more ho he hb.1 (waitsT_spec n _ h1)
  · cases h
def closed (md : Region.Mode) (ops : Array Oper) (listed : Array Bool) : Bool := (List.range ops.size).all fun k => match ops[k]? with | some o => !listed.getD k true || o.after.all (fun e => !Region.binds md e || listed.getD e.on true) | none => true
theorem closed_spec {listed : Array Bool} (h : closed md ops listed = true) : Closed md ops listed := by
 intro k o ho hk e he hb
 have hlt : k < ops.size := by
  rcases Nat.lt_or_ge k ops.size with h' | h'
  · exact h'
  · rw [Array.getElem?_eq_none h'] at ho; cases ho
 have h1 := List.all_eq_true.1 h k (List.mem_range.2 hlt)
 simp only [ho, hk, Bool.not_true, Bool.false_or] at h1
 have h2 := Array.all_eq_true'.1 h1 e he
 rw [hb] at h2
 simpa using h2
abbrev okT (md : Region.Mode) (ops : Array Oper) (L i : Nat) (listed : Array Bool) : Bool := i != L && waitsT md ops i 14 L && closed md ops listed && Region.noSelect ops && Region.free md ops listed i && (Region.ready md ops listed).contains i && !listed.getD L true
theorem take_tellsT {i : Nat} {o : Oper} {n : Nat} {listed : Array Bool} {a : Act} {w : World} {v : Value} (hi : ops[i]? = some o)
 (hc : okT md ops L i listed = true) (hQ : ∀ v c a w, Q (.panic c) (a.put o.dst v) w → Q (.panic c) a w) (hS : S w)
 (ht : Tells P ops S o v a) (h : AnyL P md ops Q S L n (listed.setIfInBounds i true) (a.put o.dst v) w) : AnyL P md ops Q S L (n + 1) listed a w := by
 simp only [okT, Bool.and_eq_true, bne_iff_ne, ne_eq, Bool.not_eq_true'] at hc
 obtain ⟨⟨⟨⟨⟨⟨h1, h2⟩, h7⟩, h3⟩, h4⟩, h5⟩, h6⟩ := hc
 exact take_firstT hi h1 (waitsT_spec _ _ h2) (Region.noSelect_spec h3) (hQ v) n listed a w (closed_spec h7) h6 (Region.free_spec hi h4) (by simpa using h5) ht hS h
theorem takeLT {i : Nat} {o : Oper} {n : Nat} {listed : Array Bool} {a : Act} {w : World} (hi : ops[i]? = some o)
 (hc : okT md ops L i listed = true) (hQ : ∀ v c a w, Q (.panic c) (a.put o.dst v) w → Q (.panic c) a w) (hS : S w)
 (h : ∀ K : Act → Prop, (∀ a', AnyL P md ops Q S L n (listed.setIfInBounds i true) a' w → K a') → if Region.wanted o (yielded ops a.tmps) = true then ∃ v, (∀ w', S w' → (execOp a.eval o).run P w' = .ok (.value v) w') ∧ K (a.put o.dst v) else K (a.put o.dst undef)) : AnyL P md ops Q S L (n + 1) listed a w := by
 have h2 := h (fun a' => AnyL P md ops Q S L n (listed.setIfInBounds i true) a' w) (fun _ hh => hh)
 by_cases hw : Region.wanted o (yielded ops a.tmps) = true
 · rw [if_pos hw] at h2
   obtain ⟨v, hv, hk⟩ := h2
   exact take_tellsT hi hc hQ hS (.inl ⟨hw, fun w' hs => .inl (hv w' hs)⟩) hk
 · rw [if_neg hw] at h2
   exact take_tellsT hi hc hQ hS (.inr ⟨by simpa using hw, rfl⟩) h2
theorem takeCT {i : Nat} {o : Oper} {n : Nat} {listed : Array Bool} {a : Act} {w : World} {f : FuncId} {args : Array Value} {v : Value} (hi : ops[i]? = some o)
 (hc : okT md ops L i listed = true) (hQ : ∀ v c a w, Q (.panic c) (a.put o.dst v) w → Q (.panic c) a w) (hS : S w)
 (hg : o.guard = none) (hr : ∀ w', (execOp a.eval o).run P w' = .ok (.enter f args) w') (hv : ∀ w', S w' → Calls P f args w' (fun e w2 => e = .returned v ∧ w2 = w'))
 (h : AnyL P md ops Q S L n (listed.setIfInBounds i true) (a.put o.dst v) w) : AnyL P md ops Q S L (n + 1) listed a w :=
 take_tellsT hi hc hQ hS (.inl ⟨by simp [Region.wanted, hg], fun w' hs => .inr ⟨f, args, hr w', hv w' hs⟩⟩) h
end
end Go.Proofs.YthdfmbmbjpmlaaaDoor.Ord
end
section
set_option linter.unusedVariables false
set_option linter.unusedSimpArgs false
namespace Go.Proofs.YthdfmbmbjpmlaaaDoor.Rn
open Go Go.RowKit Go.Proofs.YthdfmbmbjpmlaaaDoorW.PrintWords Go.Proofs.YthdfmbmbjpmlaaaDoorW.PrintLast Go.Proofs.YthdfmbmbjpmlaaaDoorW.PrintMore
theorem f_two {α : Type} {k : Kd α} {W : World} {b : Nat} {ok ok' okB : Nat → Prop} {x y : α} {c c' : List Value} {t : TypeId} {cs : Array Value} (h : W.heap[b]? = some (.cells cs t (0, 0))) (hcs : cs = (c ++ c').toArray) (hK : Kd.FK k W ok x c) (hK' : Kd.FK k W ok' y c')
 (h1 : ∀ q, ok q → okB q) (h2 : ∀ q, ok' q → okB q) :
 Kd.F k W (fun q => q = b ∨ okB q) (some ⟨b, 0, none⟩) 2 [x, y] := fun W' hW => by
 have h2' := (hW b (Or.inl rfl) (blk_lt h)).trans h
 have hK2 := hK W' (fun q hq => hW q (Or.inr (h1 q hq)))
 have hK3 := hK' W' (fun q hq => hW q (Or.inr (h2 q hq)))
 refine row_new h2' (show 2 ≤ _ from by omega) (fun j z hz => ?_)
 match j, hz with
 | 0, hz =>
  obtain rfl := Option.some.inj hz
  refine ⟨c, k.K_len hK2, hK2, fun i u hu => ?_⟩
  rw [hcs]
  have hi : i < c.length := (List.getElem?_eq_some_iff.1 hu).1
  simp only [Nat.zero_mul, Nat.zero_add, List.getElem?_toArray, List.getElem?_append_left hi]
  exact hu
 | 1, hz =>
  obtain rfl := Option.some.inj hz
  refine ⟨c', k.K_len hK3, hK3, fun i u hu => ?_⟩
  rw [hcs, Nat.one_mul, ← k.K_len hK2]
  simp only [List.getElem?_toArray]
  rw [List.getElem?_append_right (Nat.le_add_right _ _), Nat.add_sub_cancel_left]
  exact hu
 | j + 2, hz => simp at hz
structure SeqAt (wS w : World) (gC : Nat) (okF : Nat → Prop) (q : Pt) : Prop where
 h : ∃ cs : List Value, w.heap[gC]? = some (.cells cs.toArray 37 (0, 0)) ∧ Kd.FK kPt w okF q cs
 b : Below wS.heap.size wS w
theorem fk_put {α : Type} {k : Kd α} {W : World} {ok : Nat → Prop} {x : α} {c : List Value} (p : Addr) (v : Value) (h : Kd.FK k W ok x c) (hne : ∀ q, ok q → q ≠ p.block) : Kd.FK k (W.setCell p v) ok x c := Kd.FK_step h (fun q ho _ => Below.heap_setCell W p v q (hne q ho))
theorem fk_put4 {α : Type} {k : Kd α} {W : World} {ok : Nat → Prop} {x : α} {c : List Value} {b : Nat} (a0 a1 a2 a3 : Nat) (v0 v1 v2 v3 : Value) (h : Kd.FK k W ok x c) (hne : ∀ q, ok q → q ≠ b) :
 Kd.FK k ((((W.setCell ⟨b, a0, none⟩ v0).setCell ⟨b, a1, none⟩ v1).setCell ⟨b, a2, none⟩ v2).setCell ⟨b, a3, none⟩ v3) ok x c := fk_put _ _ (fk_put _ _ (fk_put _ _ (fk_put _ _ h hne) hne) hne) hne
theorem blk_put4 {W : World} {b : Nat} {t : TypeId} (c0 c1 c2 c3 : Value) (v0 v1 v2 v3 : Value) (h : W.heap[b]? = some (.cells #[c0, c1, c2, c3] t (0, 0))) :
 ((((W.setCell ⟨b, 0, none⟩ v0).setCell ⟨b, 1, none⟩ v1).setCell ⟨b, 2, none⟩ v2).setCell ⟨b, 3, none⟩ v3).heap[b]? = some (.cells #[v0, v1, v2, v3] t (0, 0)) := blk_put (blk_put (blk_put (blk_put h 0 v0 rfl) 1 v1 rfl) 2 v2 rfl) 3 v3 rfl
theorem below_put4 {base : Nat} {w W : World} {b : Nat} (hb : base ≤ b) (a0 a1 a2 a3 : Nat) (v0 v1 v2 v3 : Value) (h : Below base w W) : Below base w ((((W.setCell ⟨b, a0, none⟩ v0).setCell ⟨b, a1, none⟩ v1).setCell ⟨b, a2, none⟩ v2).setCell ⟨b, a3, none⟩ v3) := (((h.setCell hb _).setCell hb _).setCell hb _).setCell hb _
theorem madeP_nil {ins calls rets : List ByteArray} {ks : List Int} {xs : List Pt} (h : patRun ins calls rets [] ((ks.take 8).drop 0) = xs) (h0 : xs.length = 0) : madeP ins calls rets ks = ⟨4, [], [], []⟩ := by
 obtain rfl := List.length_eq_zero_iff.1 h0
 rw [List.drop_zero] at h
 unfold madeP
 rw [h]
theorem madeP_cons {ins calls rets : List ByteArray} {ks : List Int} {xs : List Pt} (h : patRun ins calls rets [] ((ks.take 8).drop 0) = xs) (h0 : 0 < xs.length) : madeP ins calls rets ks = patSeq (xs.getD 0 ptZ) (xs.drop 1) := by
 rw [List.drop_zero] at h
 unfold madeP
 rw [h]
 match xs, h0 with
 | p :: l, _ => rfl
theorem patSeq_step {xs : List Pt} {n : Nat} (q : Pt) (h : n + 1 < xs.length) : patSeq q (xs.drop (n + 1)) = patSeq ⟨5, [], [], [q, xs.getD (n + 1) ptZ]⟩ (xs.drop (n + 1 + 1)) := by
 rw [List.drop_eq_getElem_cons h, patSeq, List.getD_eq_getElem?_getD, List.getElem?_eq_getElem h]
 rfl
theorem patSeq_end {xs : List Pt} {n : Nat} (q : Pt) (h : xs.length ≤ n) : patSeq q (xs.drop n) = q := by
 rw [List.drop_eq_nil_of_le h, patSeq]
end Go.Proofs.YthdfmbmbjpmlaaaDoor.Rn
end
section
set_option linter.unusedVariables false
set_option linter.unusedSimpArgs false
namespace Go.Proofs.YthdfmbmbjpmlaaaDoor.Rn
open Go Go.RowKit Go.Proofs.YthdfmbmbjpmlaaaDoorW.PrintWords Go.Proofs.YthdfmbmbjpmlaaaDoorW.PrintLast Go.Proofs.YthdfmbmbjpmlaaaDoorW.PrintMore
theorem made_rowP {W : World} {base gR g4 a0 a1 b1 : Nat} {ok : Nat → Prop} {E0 A2 B2 : Option Addr} {c0 e0 c1 c2 d1 d2 : Nat}
 (hR : W.heap[gR]? = some (.cells #[.string ⟨#[97]⟩, .int .i64 0, .int .i64 1, .int .i64 2, .slice (some ⟨a0, 0, none⟩) 1 c0, .slice E0 0 e0, .string ⟨#[98]⟩, .int .i64 0, .int .i64 2, .int .i64 2, .slice (some ⟨g4, 0, none⟩) 2 2, .slice none 0 0, .string ⟨#[111]⟩, .int .i64 1, .int .i64 3, .int .i64 2, .slice (some ⟨a1, 0, none⟩) 1 c1, .slice A2 0 c2, .string ⟨#[99]⟩, .int .i64 2, .int .i64 4, .int .i64 2, .slice (some ⟨b1, 0, none⟩) 1 d1, .slice B2 0 d2] 50 (0, 0)))
 (hr4 : Kd.F k56 W (fun k => k = g4) (some ⟨g4, 0, none⟩) 2 [⟨10, 10⟩, ⟨98, 98⟩])
 (k0 : 1 ≤ c0) (hA0 : Kd.F k56 W (fun k => k = a0) (some ⟨a0, 0, none⟩) 1 [⟨97, 97⟩]) (hE0 : ∀ W' : World, k48.C W' E0 0 [])
 (k1 : 1 ≤ c1) (hA1 : Kd.F k56 W (fun k => k = a1) (some ⟨a1, 0, none⟩) 1 [⟨99, 99⟩]) (hA2 : ∀ W' : World, k48.C W' A2 0 [])
 (k2 : 1 ≤ d1) (hB1 : Kd.F k56 W (fun k => k = b1) (some ⟨b1, 0, none⟩) 1 [⟨100, 100⟩]) (hB2 : ∀ W' : World, k48.C W' B2 0 [])
 (hb : base ≤ gR) (hgR : ok gR) (hb0 : ok a0 ∧ a0 ≠ gR) (hb1 : ok a1 ∧ a1 ≠ gR) (hb2 : ok b1 ∧ b1 ≠ gR) (hb4 : ok g4 ∧ g4 ≠ gR) :
 Kd.N kTok 50 W base ok (.slice (some ⟨gR, 0, none⟩) 4 4) madeT := by
 have hall : ∀ u ∈ ([.string ⟨#[97]⟩, .int .i64 0, .int .i64 1, .int .i64 2, .slice (some ⟨a0, 0, none⟩) 1 c0, .slice E0 0 e0, .string ⟨#[98]⟩, .int .i64 0, .int .i64 2, .int .i64 2, .slice (some ⟨g4, 0, none⟩) 2 2, .slice none 0 0, .string ⟨#[111]⟩, .int .i64 1, .int .i64 3, .int .i64 2, .slice (some ⟨a1, 0, none⟩) 1 c1, .slice A2 0 c2, .string ⟨#[99]⟩, .int .i64 2, .int .i64 4, .int .i64 2, .slice (some ⟨b1, 0, none⟩) 1 d1, .slice B2 0 d2] : List Value), u.oneCell' = true := by simp [Value.oneCell']
 have ow : (Value.slice (some ⟨gR, 0, none⟩) 4 4).ownBlock = some gR := rfl
 refine ⟨fun k hk => by rw [ow] at hk; injection hk with hk; exact hk ▸ hgR, [[.string ⟨#[97]⟩, .int .i64 0, .int .i64 1, .int .i64 2, .slice (some ⟨a0, 0, none⟩) 1 c0, .slice E0 0 e0], [.string ⟨#[98]⟩, .int .i64 0, .int .i64 2, .int .i64 2, .slice (some ⟨g4, 0, none⟩) 2 2, .slice none 0 0], [.string ⟨#[111]⟩, .int .i64 1, .int .i64 3, .int .i64 2, .slice (some ⟨a1, 0, none⟩) 1 c1, .slice A2 0 c2], [.string ⟨#[99]⟩, .int .i64 2, .int .i64 4, .int .i64 2, .slice (some ⟨b1, 0, none⟩) 1 d1, .slice B2 0 d2]], rfl, ⟨fun k hk => hk.symm, [.string ⟨#[97]⟩, .int .i64 0, .int .i64 1, .int .i64 2, .slice (some ⟨a0, 0, none⟩) 1 c0, .slice E0 0 e0, .string ⟨#[98]⟩, .int .i64 0, .int .i64 2, .int .i64 2, .slice (some ⟨g4, 0, none⟩) 2 2, .slice none 0 0, .string ⟨#[111]⟩, .int .i64 1, .int .i64 3, .int .i64 2, .slice (some ⟨a1, 0, none⟩) 1 c1, .slice A2 0 c2, .string ⟨#[99]⟩, .int .i64 2, .int .i64 4, .int .i64 2, .slice (some ⟨b1, 0, none⟩) 1 d1, .slice B2 0 d2], ⟨rfl, Or.inr ⟨gR, 4, _, rfl, hb, hR, Nat.le_refl _, by unfold maxLen; omega, rfl, rfl⟩⟩, rfl, ?_⟩, ?_⟩
 · intro j p hp
   match j, hp with
   | 0, hp => obtain rfl := Option.some.inj hp; exact ⟨rfl, rfl, fun u hu => hall u (List.mem_of_mem_drop (List.mem_of_mem_take hu))⟩
   | 1, hp => obtain rfl := Option.some.inj hp; exact ⟨rfl, rfl, fun u hu => hall u (List.mem_of_mem_drop (List.mem_of_mem_take hu))⟩
   | 2, hp => obtain rfl := Option.some.inj hp; exact ⟨rfl, rfl, fun u hu => hall u (List.mem_of_mem_drop (List.mem_of_mem_take hu))⟩
   | 3, hp => obtain rfl := Option.some.inj hp; exact ⟨rfl, rfl, fun u hu => hall u (List.mem_of_mem_drop (List.mem_of_mem_take hu))⟩
   | j + 4, hp => simp at hp
 · have mono : ∀ {g : Nat}, ok g ∧ g ≠ gR → ∀ k, k = g → (fun k => ok k ∧ some k ≠ (Value.slice (some ⟨gR, 0, none⟩) 4 4).ownBlock) k := by
    rintro g ⟨h1, h2⟩ k rfl
    exact ⟨h1, by rw [ow]; simpa using h2⟩
   intro j x c hx hc
   match j, hx, hc with
   | 0, hx, hc =>
    obtain rfl := Option.some.inj hx
    obtain rfl := Option.some.inj hc
    exact k50_mkF W _ ⟨⟨#[97]⟩, 0, 1, oneT 97⟩ k0 (Kd.F_mono hA0 (mono hb0)) (Nat.zero_le e0) (re_noneF hE0)
   | 1, hx, hc =>
    obtain rfl := Option.some.inj hx
    obtain rfl := Option.some.inj hc
    exact k50_mkF W _ ⟨⟨#[98]⟩, 0, 2, ⟨2, [⟨10, 10⟩, ⟨98, 98⟩], []⟩⟩ (show 2 ≤ 2 from Nat.le_refl _) (Kd.F_mono hr4 (mono hb4)) (Nat.zero_le 0) (re_noneF (fun W' => (show k48.C W' none 0 [] from ⟨rfl, by decide, fun h => absurd h (by decide)⟩)))
   | 2, hx, hc =>
    obtain rfl := Option.some.inj hx
    obtain rfl := Option.some.inj hc
    exact k50_mkF W _ ⟨⟨#[111]⟩, 1, 3, oneT 99⟩ k1 (Kd.F_mono hA1 (mono hb1)) (Nat.zero_le c2) (re_noneF hA2)
   | 3, hx, hc =>
    obtain rfl := Option.some.inj hx
    obtain rfl := Option.some.inj hc
    exact k50_mkF W _ ⟨⟨#[99]⟩, 2, 4, oneT 100⟩ k2 (Kd.F_mono hB1 (mono hb2)) (Nat.zero_le d2) (re_noneF hB2)
   | j + 4, hx, hc => simp [madeT] at hx
def tokPQ : List Tok := [⟨⟨#[112]⟩, 1, 5, ⟨3, [], [oneT 99, oneT 99]⟩⟩, ⟨⟨#[113]⟩, 2, 6, ⟨3, [], [oneT 100, oneT 97]⟩⟩]
def madeTs (n : Nat) : List Tok := if 3 < n then madeT ++ tokPQ else madeT
def madeCalls (n : Nat) : List ByteArray := if 3 < n then [⟨#[111]⟩, ⟨#[112]⟩] else [⟨#[111]⟩]
def madeRets (n : Nat) : List ByteArray := if 3 < n then [⟨#[99]⟩, ⟨#[113]⟩] else [⟨#[99]⟩]
structure MadeG (W w3 : World) (gG : Nat) (w : World) : Prop where
 g : ∃ gR, w.heap[gG]? = some (.cells #[.slice (some ⟨gR, 0, none⟩) 4 4, .slice none 0 0] 26 (0, 0)) ∧ Kd.N kTok 50 w W.heap.size (fun k => W.heap.size < k ∧ k ≠ gG) (.slice (some ⟨gR, 0, none⟩) 4 4) madeT
 ge : w3.heap.size ≤ gG
 b : Below w3.heap.size w3 w
def TxtRow (W : World) (w : World) (gG : Nat) (v : Value) (l : List ByteArray) : Prop := ∃ b, v = .slice (some ⟨b, 0, none⟩) l.length l.length ∧ W.heap.size < b ∧ b ≠ gG ∧ Kd.F Kd.string w (fun k => k = b) (some ⟨b, 0, none⟩) l.length l
structure MadeH (W w3 : World) (gG n : Nat) (v6 v7 : Value) (w : World) : Prop where
 g : ∃ A m c, w.heap[gG]? = some (.cells #[.slice A m c, .slice none 0 0] 26 (0, 0)) ∧ Kd.N kTok 50 w W.heap.size (fun k => W.heap.size < k ∧ k ≠ gG) (.slice A m c) (madeTs n)
 ge : w3.heap.size ≤ gG
 calls : TxtRow W w gG v6 (madeCalls n)
 rets : TxtRow W w gG v7 (madeRets n)
 b : Below w3.heap.size w3 w
theorem text_one {w : World} {b : Nat} {s : ByteArray} (h : w.heap[b]? = some (.cells #[.string s] 9 (0, 0))) : Kd.F Kd.string w (fun k => k = b) (some ⟨b, 0, none⟩) 1 [s] :=
 Kd.F_mono (f_one (k := Kd.string) (ok := fun _ => False) (c := [.string s]) h rfl (fun _ _ => rfl)) (fun q hq => hq.elim id (fun h => h.elim))
theorem text_two {w : World} {b : Nat} {s t : ByteArray} (h : w.heap[b]? = some (.cells #[.string s, .string t] 9 (0, 0))) : Kd.F Kd.string w (fun k => k = b) (some ⟨b, 0, none⟩) 2 [s, t] :=
 Kd.F_mono (f_two (k := Kd.string) (ok := fun _ => False) (ok' := fun _ => False) (okB := fun _ => False) (c := [.string s]) (c' := [.string t]) h rfl (fun _ _ => rfl) (fun _ _ => rfl) (fun _ h => h) (fun _ h => h)) (fun q hq => hq.elim id (fun h => h.elim))
end Go.Proofs.YthdfmbmbjpmlaaaDoor.Rn
end
section
set_option linter.unusedVariables false
set_option linter.unusedSimpArgs false
namespace Go.Proofs.YthdfmbmbjpmlaaaDoor.Rn
open Go Go.RowKit Go.Proofs.YthdfmbmbjpmlaaaDoorW.PrintWords Go.Proofs.YthdfmbmbjpmlaaaDoorW.PrintLast Go.Proofs.YthdfmbmbjpmlaaaDoorW.PrintMore
def stepsN (k : Int) : Nat := 1 + (IntKind.u64.wrap k / 2 % 2).toNat
def freeOf (k : Int) : Bool := bits .and .i64 k 1 == 1
def numbersOf (l : List Int) (n j : Nat) : List Int := (l.take (1 + (l.length - 1) * (j + 1) / n)).drop (1 + (l.length - 1) * j / n)
def abS : List ByteArray := [⟨#[97]⟩, ⟨#[98]⟩]
def stepOf (m : Nat) (l : List Int) (k : Int) (j : Nat) : S39 :=
 ⟨if 0 < j ∨ freeOf k = true then pickS (madeCalls m) (wrap64 (k.tdiv 4)) else [], madeP abS (madeCalls m) (madeRets m) (numbersOf l (stepsN k) j)⟩
def stepsTo (m : Nat) (l : List Int) (k : Int) : Nat → List S39
 | 0 => []
 | j + 1 => stepsTo m l k j ++ [stepOf m l k j]
def ruleOf (m i : Nat) (l : List Int) (k : Int) : Rul := ⟨10 + (i : Int), freeOf k, stepsTo m l k (stepsN k)⟩
def rulesTo (m : Nat) (ls : List (List Int)) : Nat → List Rul
 | 0 => []
 | i + 1 => rulesTo m ls i ++ (match ls[i]? with
  | some (k :: b :: l) => [ruleOf m i (k :: b :: l) k]
  | _ => [])
def madeRs (ls : List (List Int)) : List Rul := rulesTo ls.length ls (min ls.length 3)
theorem stepsTo_len (m : Nat) (l : List Int) (k : Int) : ∀ j, (stepsTo m l k j).length = j
 | 0 => rfl
 | j + 1 => by rw [stepsTo, List.length_append, stepsTo_len m l k j]; rfl
theorem rulesTo_len (m : Nat) (ls : List (List Int)) : ∀ i, (rulesTo m ls i).length ≤ i
 | 0 => Nat.le_refl _
 | i + 1 => by
  have := rulesTo_len m ls i
  rw [rulesTo, List.length_append]
  split
  · simp; omega
  · simp; omega
theorem stepsN_le (k : Int) : 1 ≤ stepsN k ∧ stepsN k ≤ 2 := by unfold stepsN; omega
theorem rulesTo_skip {m : Nat} {ls : List (List Int)} {i : Nat} {l : List Int} (hl : ls[i]? = some l) (h : l.length < 2) : rulesTo m ls (i + 1) = rulesTo m ls i := by
 rw [rulesTo, hl]
 match l, h with
 | [], _ => exact List.append_nil _
 | [_], _ => exact List.append_nil _
theorem rulesTo_more {m : Nat} {ls : List (List Int)} {i : Nat} {l : List Int} {k : Int} (hl : ls[i]? = some l) (h : 2 ≤ l.length) (hk : l[0]? = some k) : rulesTo m ls (i + 1) = rulesTo m ls i ++ [ruleOf m i l k] := by
 rw [rulesTo, hl]
 match l, h, hk with
 | a :: b :: l, _, hk =>
  obtain rfl := Option.some.inj hk
  rfl
theorem numbersOf_bound {l : List Int} {n j : Nat} (hl : 2 ≤ l.length) (hn : 1 ≤ n) (hj : j < n) : 1 + (l.length - 1) * j / n ≤ 1 + (l.length - 1) * (j + 1) / n ∧ 1 + (l.length - 1) * (j + 1) / n ≤ l.length := by
 constructor
 · exact Nat.add_le_add_left (Nat.div_le_div_right (Nat.mul_le_mul_left _ (Nat.le_succ _))) _
 · have : (l.length - 1) * (j + 1) / n ≤ l.length - 1 := Nat.div_le_of_le_mul (by rw [Nat.mul_comm n]; exact Nat.mul_le_mul_left _ hj)
   omega
structure MadeI (W w3 wH : World) (gG : Nat) (A : Option Addr) (n c m : Nat) (ls : List (List Int)) (w : World) : Prop where
 g : ∃ B r d, w.heap[gG]? = some (.cells #[.slice A n c, .slice B r d] 26 (0, 0)) ∧ Kd.N kRul 32 w wH.heap.size (fun k => W.heap.size < k ∧ k ≠ gG) (.slice B r d) (rulesTo ls.length ls m)
 k : ∀ k, k < wH.heap.size → k ≠ gG → w.heap[k]? = wH.heap[k]?
 s : wH.heap.size ≤ w.heap.size
 b : Below w3.heap.size w3 w
theorem stepsN_eq (k : Int) : wrap64 (1 + wrap64 ((IntKind.u64.wrap (IntKind.u64.wrap k / 2)).tmod 2)) = ((stepsN k : Nat) : Int) := by
 have h := wrap_u0 k
 have h1 : IntKind.u64.wrap (IntKind.u64.wrap k / 2) = IntKind.u64.wrap k / 2 := by
  rw [IntKind.wrap_u64 (_ / 2)]
  omega
 rw [h1, Int.tmod_eq_emod_of_nonneg (by omega)]
 unfold stepsN wrap64
 omega
structure MadeS (W wH wI : World) (gG gr mm i : Nat) (l : List Int) (k : Int) (j : Nat) (w : World) : Prop where
 g : ∃ B r d, w.heap[gr]? = some (.cells #[.int .i64 (10 + (i : Int)), .bool (freeOf k), .slice B r d] 32 (0, 0)) ∧ Kd.N k39 39 w wI.heap.size (fun q => ((W.heap.size < q ∧ q ≠ gG) ∧ (q < wH.heap.size ∨ wI.heap.size ≤ q)) ∧ q ≠ gr) (.slice B r d) (stepsTo mm l k j)
 b : Below wI.heap.size wI w
end Go.Proofs.YthdfmbmbjpmlaaaDoor.Rn
end
section
namespace Go.Proofs.YthdfmbmbjpmlaaaDoor.Rn
open Go.RowKit Go.Proofs.YthdfmbmbjpmlaaaDoorW.PrintWords Go.Proofs.YthdfmbmbjpmlaaaDoorW.PrintLast Go.Proofs.YthdfmbmbjpmlaaaDoorW.PrintMore
attribute [local go_sem] max2_int min2_int max_two min_two max_three min_three max_four min_four   -- for this text's walks alone
set_option linter.unusedVariables false
set_option linter.unusedSimpArgs false
mutual
def regex_parts.j0 : Nat → Int → Bool → Option (Int)
 | 0, _, _ => none
 | k + 1, x3, x4 => if x4 = true then (some 0) else (if x3 = 3 then (regex_parts.j1 k x3 (x3 == 3)) else (regex_parts.j1 k x3 (x3 == 4)))
def regex_parts.j1 : Nat → Int → Bool → Option (Int)
 | 0, _, _ => none
 | k + 1, x3, x8 => if x8 = true then (some 2) else (if x3 = 5 then (some 1) else (some (-1)))
end
def regex_parts.f (k : Nat) (a0 : Int) : Option (Int) := if a0 = 0 then (regex_parts.j0 k a0 (a0 == 0)) else (if a0 = 1 then (regex_parts.j0 k a0 (a0 == 1)) else (regex_parts.j0 k a0 (a0 == 2)))
theorem regex_parts.mono_l : ∀ k, (∀ y0 y1, LeO (regex_parts.j0 k y0 y1) (regex_parts.j0 (k + 1) y0 y1)) ∧ (∀ y0 y1, LeO (regex_parts.j1 k y0 y1) (regex_parts.j1 (k + 1) y0 y1))
 | 0 => ⟨fun _ _ r h => by simp [regex_parts.j0] at h, fun _ _ r h => by simp [regex_parts.j1] at h⟩
 | k + 1 => by
  obtain ⟨ih0, ih1⟩ := regex_parts.mono_l k
  refine ⟨?_, ?_⟩
  · intro y0 y1
    unfold regex_parts.j0
    repeat' first
    | (with_reducible exact ih0 _ _)
    | (with_reducible exact ih1 _ _)
    | (with_reducible exact LeO.refl _)
    | (with_reducible exact LeO.none _)
    | (with_reducible refine LeO.ite ?_ ?_)
    | (with_reducible refine LeO.bind ?_ (fun _ => ?_))
    | exact ih0 _ _
    | exact ih1 _ _
    | exact LeO.none _
    | refine LeO.ite ?_ ?_
    | refine LeO.bind ?_ (fun _ => ?_)
  · intro y0 y1
    unfold regex_parts.j1
    repeat' first
    | (with_reducible exact ih0 _ _)
    | (with_reducible exact ih1 _ _)
    | (with_reducible exact LeO.refl _)
    | (with_reducible exact LeO.none _)
    | (with_reducible refine LeO.ite ?_ ?_)
    | (with_reducible refine LeO.bind ?_ (fun _ => ?_))
    | exact ih0 _ _
    | exact ih1 _ _
    | exact LeO.none _
    | refine LeO.ite ?_ ?_
    | refine LeO.bind ?_ (fun _ => ?_)
theorem regex_parts.mono : ∀ a0 k, LeO (regex_parts.f k a0) (regex_parts.f (k + 1) a0) := by
 intro a0 k
 obtain ⟨ih0, ih1⟩ := regex_parts.mono_l k
 unfold regex_parts.f
 repeat' first
  | (with_reducible exact ih0 _ _)
  | (with_reducible exact ih1 _ _)
  | (with_reducible exact LeO.refl _)
  | (with_reducible exact LeO.none _)
  | (with_reducible refine LeO.ite ?_ ?_)
  | (with_reducible refine LeO.bind ?_ (fun _ => ?_))
  | exact ih0 _ _
  | exact ih1 _ _
  | exact LeO.none _
  | refine LeO.ite ?_ ?_
  | refine LeO.bind ?_ (fun _ => ?_)
set_option maxHeartbeats 8000000 in
set_option maxRecDepth 100000 in
theorem regex_parts.calls (k : Nat) (a0 : Int) (r : Int) (w : World) (h : regex_parts.f k a0 = some r) :
 Calls Tryd.prog 60 #[.int .i64 a0] w fun e w' => e = .returned (.int .i64 r) ∧ Drawn0 w w' := by
 have H : (if a0 = 0 then (regex_parts.j0 k a0 (a0 == 0)) else (if a0 = 1 then (regex_parts.j0 k a0 (a0 == 1)) else (regex_parts.j0 k a0 (a0 == 2)))) = some r := h
 clear h
 have HC2 := Aside0.mk H
 clear H
 go_enter Tryd.func60, Tryd.ntmps60
 go_upto_if 4 with (fail)
 go_cut [4] (fun v4 wc => ∃ (kq : Nat) (x4_1 : Bool), v4 = .bool x4_1 ∧ Aside0 (regex_parts.j0 kq a0 x4_1 = some r) ∧ Aside0 (kq ≤ k) ∧ Drawn0 w wc)
 case first =>
  have H := HC2.out
  clear HC2
  by_cases c3 : a0 = 0
  · rw [if_pos c3] at H
    have c3b0 : (a0 == 0) = true := beq_iff_eq.mpr c3
    have c3b1 : (a0 != 0) = false := bne_eq_false_iff_eq.mpr c3
    clear c3
    (first | rw [c3b0] | (simp only [i64_w, i32_w]; rw [c3b0]) | skip)
    have H' := Aside0.mk H
    clear H
    go_wp2
    go_meet
    case rel => exact ⟨_, ((a0 == 0)), (by first | rfl | (simp; done) | (simp [*]; done)), H', ⟨by first | omega | exact Nat.le_refl _⟩, by repeat (first | exact Drawn0.refl _ | apply Drawn0.step)⟩
  · rw [if_neg c3] at H
    have c3b0 : (a0 == 0) = false := beq_eq_false_iff_ne.mpr c3
    have c3b1 : (a0 != 0) = true := bne_iff_ne.mpr c3
    (first | rw [c3b0] | (simp only [i64_w, i32_w]; rw [c3b0]) | skip)
    by_cases c4 : a0 = 1
    · rw [if_pos c4] at H
      have c4b0 : (a0 == 1) = true := beq_iff_eq.mpr c4
      have c4b1 : (a0 != 1) = false := bne_eq_false_iff_eq.mpr c4
      clear c4
      have H' := Aside0.mk H
      clear H
      go_wp2
      go_meet
      case rel => exact ⟨_, ((a0 == 1)), (by first | rfl | (simp; done) | (simp [*]; done)), H', ⟨by first | omega | exact Nat.le_refl _⟩, by repeat (first | exact Drawn0.refl _ | apply Drawn0.step)⟩
    · rw [if_neg c4] at H
      have c4b0 : (a0 == 1) = false := beq_eq_false_iff_ne.mpr c4
      have c4b1 : (a0 != 1) = true := bne_iff_ne.mpr c4
      have H' := Aside0.mk H
      clear H
      go_wp2
      go_meet
      case rel => exact ⟨_, ((a0 == 2)), (by first | rfl | (simp; done) | (simp [*]; done)), H', ⟨by first | omega | exact Nat.le_refl _⟩, by repeat (first | exact Drawn0.refl _ | apply Drawn0.step)⟩
 case rest =>
  clear HC2
  try clear p2
  try clear c3
  try clear c3b0
  try clear c3b1
  try clear c4
  try clear c4b0
  try clear c4b1
  obtain ⟨kq, x4_1, rfl, HA, HJ1, ⟨mc1, rfl⟩⟩ := hcut
  cases kq with
  | zero => exact absurd HA.out (by simp [regex_parts.j0])
  | succ kj1 =>
   have H := HA.out
   clear HA
   simp only [regex_parts.j0] at H
   by_cases c5 : x4_1 = true
   · subst c5
     have H1 : (some 0) = some r := by rw [if_pos rfl] at H; exact H
     clear H
     have H := H1
     clear H1
     obtain rfl := Option.some.inj H
     go_wp2
     go_ret
     exact ⟨by first | rfl | (simp; done) | (simp [*]; done), by repeat (first | exact Drawn0.refl _ | apply Drawn0.step)⟩
   · replace c5 := Bool.eq_false_iff.mpr c5
     subst c5
     have H1 : (if a0 = 3 then (regex_parts.j1 kj1 a0 (a0 == 3)) else (regex_parts.j1 kj1 a0 (a0 == 4))) = some r := by rw [if_neg (show ¬ (false = true) by decide)] at H; exact H
     clear H
     have H := H1
     clear H1
     have HC6 := Aside0.mk H
     clear H
     go_upto_if 8 with (fail)
     go_cut [8] (fun v8 wc => ∃ (kq : Nat) (x8_5 : Bool), v8 = .bool x8_5 ∧ Aside0 (regex_parts.j1 kq a0 x8_5 = some r) ∧ Aside0 (kq ≤ kj1) ∧ Drawn0 w wc)
     case first =>
      have H := HC6.out
      clear HC6
      by_cases c7 : a0 = 3
      · rw [if_pos c7] at H
        have c7b0 : (a0 == 3) = true := beq_iff_eq.mpr c7
        have c7b1 : (a0 != 3) = false := bne_eq_false_iff_eq.mpr c7
        clear c7
        (first | rw [c7b0] | (simp only [i64_w, i32_w]; rw [c7b0]) | skip)
        have H' := Aside0.mk H
        clear H
        go_wp2
        go_meet
        case rel => exact ⟨_, ((a0 == 3)), (by first | rfl | (simp; done) | (simp [*]; done)), H', ⟨by have := HJ1.out; first | omega | exact Nat.le_refl _⟩, by repeat (first | exact Drawn0.refl _ | apply Drawn0.step)⟩
      · rw [if_neg c7] at H
        have c7b0 : (a0 == 3) = false := beq_eq_false_iff_ne.mpr c7
        have c7b1 : (a0 != 3) = true := bne_iff_ne.mpr c7
        (first | rw [c7b0] | (simp only [i64_w, i32_w]; rw [c7b0]) | skip)
        have H' := Aside0.mk H
        clear H
        go_wp2
        go_meet
        case rel => exact ⟨_, ((a0 == 4)), (by first | rfl | (simp; done) | (simp [*]; done)), H', ⟨by have := HJ1.out; first | omega | exact Nat.le_refl _⟩, by repeat (first | exact Drawn0.refl _ | apply Drawn0.step)⟩
     case rest =>
      clear HC6
      try clear c1
      try clear p2
      try clear c3
      try clear c3b0
      try clear c3b1
      try clear c4
      try clear c4b0
      try clear c4b1
      try clear c5
      try clear c6
      try clear c7
      try clear c7b0
      try clear c7b1
      try clear p2
      obtain ⟨kq, x8_5, rfl, HA, HJ5, ⟨mc5, rfl⟩⟩ := hcut
      cases kq with
      | zero => exact absurd HA.out (by simp [regex_parts.j1])
      | succ kj5 =>
       have H := HA.out
       clear HA
       simp only [regex_parts.j1] at H
       by_cases c8 : x8_5 = true
       · subst c8
         have H1 : (some 2) = some r := by rw [if_pos rfl] at H; exact H
         clear H
         have H := H1
         clear H1
         obtain rfl := Option.some.inj H
         go_wp2
         go_ret
         exact ⟨by first | rfl | (simp; done) | (simp [*]; done), by repeat (first | exact Drawn0.refl _ | apply Drawn0.step)⟩
       · replace c8 := Bool.eq_false_iff.mpr c8
         subst c8
         have H1 : (if a0 = 5 then (some 1) else (some (-1))) = some r := by rw [if_neg (show ¬ (false = true) by decide)] at H; exact H
         clear H
         have H := H1
         clear H1
         by_cases c9 : a0 = 5
         · rw [if_pos c9] at H
           have c9b0 : (a0 == 5) = true := beq_iff_eq.mpr c9
           have c9b1 : (a0 != 5) = false := bne_eq_false_iff_eq.mpr c9
           clear c9
           obtain rfl := Option.some.inj H
           go_wp2
           go_ret
           exact ⟨by first | rfl | (simp; done) | (simp [*]; done), by repeat (first | exact Drawn0.refl _ | apply Drawn0.step)⟩
         · rw [if_neg c9] at H
           have c9b0 : (a0 == 5) = false := beq_eq_false_iff_ne.mpr c9
           have c9b1 : (a0 != 5) = true := bne_iff_ne.mpr c9
           obtain rfl := Option.some.inj H
           go_wp2
           go_ret
           exact ⟨by first | rfl | (simp; done) | (simp [*]; done), by repeat (first | exact Drawn0.refl _ | apply Drawn0.step)⟩
mutual
def regex_empty.j0 : Nat → Int → Bool → Int → List (S56) → List (S48) → Option (Bool)
 | 0, _, _, _, _, _ => none
 | k + 1, x4, x5, x301000, x301001, x301002 => if x5 = true then (some true) else (if x4 = 3 then (if 0 < (x301002.length : Int) then ((regex_empty.f k ((rd_T48 x301002 0).f0) ((rd_T48 x301002 0).f1) ((rd_T48 x301002 0).f2)).bind fun t302 => (if t302 = true then (if 1 < (x301002.length : Int) then ((regex_empty.f k ((rd_T48 x301002 1).f0) ((rd_T48 x301002 1).f1) ((rd_T48 x301002 1).f2)).bind fun t304 => (some t304)) else (none)) else (some false))) else (none)) else (if x4 = 4 then (if 0 < (x301002.length : Int) then ((regex_empty.f k ((rd_T48 x301002 0).f0) ((rd_T48 x301002 0).f1) ((rd_T48 x301002 0).f2)).bind fun t306 => (if t306 = true then (some true) else (if 1 < (x301002.length : Int) then ((regex_empty.f k ((rd_T48 x301002 1).f0) ((rd_T48 x301002 1).f1) ((rd_T48 x301002 1).f2)).bind fun t308 => (some t308)) else (none)))) else (none)) else (some false)))
def regex_empty.f : Nat → Int → List (S56) → List (S48) → Option (Bool)
 | 0, _, _, _ => none
 | k + 1, a0_0, l0_1, l0_2 => if a0_0 = 1 then (regex_empty.j0 k a0_0 (a0_0 == 1) a0_0 l0_1 l0_2) else (regex_empty.j0 k a0_0 (a0_0 == 5) a0_0 l0_1 l0_2)
end
theorem regex_empty.mono_l : ∀ k, (∀ y0 y1 y2, LeO (regex_empty.f k y0 y1 y2) (regex_empty.f (k + 1) y0 y1 y2)) ∧ (∀ y0 y1 y2 y3 y4, LeO (regex_empty.j0 k y0 y1 y2 y3 y4) (regex_empty.j0 (k + 1) y0 y1 y2 y3 y4))
 | 0 => ⟨fun _ _ _ r h => by simp [regex_empty.f] at h, fun _ _ _ _ _ r h => by simp [regex_empty.j0] at h⟩
 | k + 1 => by
  obtain ⟨ih0, ih1⟩ := regex_empty.mono_l k
  refine ⟨?_, ?_⟩
  · intro y0 y1 y2
    unfold regex_empty.f
    repeat' first
    | (with_reducible exact ih0 _ _ _)
    | (with_reducible exact ih1 _ _ _ _ _)
    | (with_reducible exact LeO.refl _)
    | (with_reducible exact LeO.none _)
    | (with_reducible refine LeO.ite ?_ ?_)
    | (with_reducible refine LeO.bind ?_ (fun _ => ?_))
    | exact ih0 _ _ _
    | exact ih1 _ _ _ _ _
    | exact LeO.none _
    | refine LeO.ite ?_ ?_
    | refine LeO.bind ?_ (fun _ => ?_)
  · intro y0 y1 y2 y3 y4
    unfold regex_empty.j0
    repeat' first
    | (with_reducible exact ih0 _ _ _)
    | (with_reducible exact ih1 _ _ _ _ _)
    | (with_reducible exact LeO.refl _)
    | (with_reducible exact LeO.none _)
    | (with_reducible refine LeO.ite ?_ ?_)
    | (with_reducible refine LeO.bind ?_ (fun _ => ?_))
    | exact ih0 _ _ _
    | exact ih1 _ _ _ _ _
    | exact LeO.none _
    | refine LeO.ite ?_ ?_
    | refine LeO.bind ?_ (fun _ => ?_)
theorem regex_empty.mono : ∀ a0 a1 a2 k, LeO (regex_empty.f k a0 a1 a2) (regex_empty.f (k + 1) a0 a1 a2) := by
 intro a0 a1 a2 k
 obtain ⟨ih0, ih1⟩ := regex_empty.mono_l k
 exact ih0 a0 a1 a2
set_option maxHeartbeats 8000000 in
set_option maxRecDepth 100000 in
theorem regex_empty.calls (k : Nat) : ∀ (a0_0 : Int) (A0_1 : Option Addr) (c0_1 : Nat) (l0_1 : List (S56)) (A0_2 : Option Addr) (c0_2 : Nat) (l0_2 : List (S48)) (r : Bool) (w : World) (hr0_1 : Kd.C k56 w A0_1 l0_1.length l0_1) (hc0_1 : l0_1.length ≤ c0_1) (hr0_2 : Kd.C k48 w A0_2 l0_2.length l0_2) (hc0_2 : l0_2.length ≤ c0_2) (h : regex_empty.f k a0_0 l0_1 l0_2 = some r),
 Calls Tryd.prog 54 #[.agg #[.int .i64 a0_0, .slice A0_1 l0_1.length c0_1, .slice A0_2 l0_2.length c0_2]] w fun e w' => e = .returned (.bool r) ∧ Below w.heap.size w w' := by
 induction k using Nat.strongRecOn with
 | _ k ih =>
 intro a0_0 A0_1 c0_1 l0_1 A0_2 c0_2 l0_2 r w hr0_1 hc0_1 hr0_2 hc0_2 h
 cases k with
 | zero => exact absurd h (by simp [regex_empty.f])
 | succ k =>
 simp only [regex_empty.f] at h
 have hu48 := Tryd.underlying48
 have HR0_1 := Aside0.mk hr0_1
 have HC0_1 := Aside0.mk hc0_1
 clear hr0_1 hc0_1
 have HR0_2 := Aside0.mk hr0_2
 have HC0_2 := Aside0.mk hc0_2
 clear hr0_2 hc0_2
 have HB := Aside0.mk (Below.refl w.heap.size w)
 have H : (if a0_0 = 1 then (regex_empty.j0 k a0_0 (a0_0 == 1) a0_0 l0_1 l0_2) else (regex_empty.j0 k a0_0 (a0_0 == 5) a0_0 l0_1 l0_2)) = some r := h
 clear h
 have HC2 := Aside0.mk H
 clear H
 go_enter Tryd.func54, Tryd.ntmps54
 go_upto_if 5 with (first | ((with_reducible refine gate_dst (N := 1) rfl ?_); refine box_event ?hg (N := 1) ?hd (cs := #[.int .i64 a0_0, .slice A0_1 l0_1.length c0_1, .slice A0_2 l0_2.length c0_2]) (t := 48) ?hr ?_; (case hd => rfl); (case hg => rfl); (case hr => first | (go_simp; done) | (go_simp; rfl)); intro gb300 hg w3 hbox hb; have n0_ := Aside0.mk (below_step (by repeat (first | (with_reducible first | exact HB.out | apply below_alloc | apply pw_below_drewN | apply below_drew1) | exact HB.out)) hb); have n1_ := Aside0.mk (hbox); have n2_ := Aside0.mk ((by rw [hg]; exact (below_size (by repeat (first | (with_reducible first | exact HB.out | apply below_alloc | apply pw_below_drewN | apply below_drew1) | exact HB.out))) : w.heap.size ≤ gb300)); have n3_ := Aside0.mk ((by rw [hg]; exact (below_size (by repeat (first | (with_reducible first | exact HB.out | apply below_alloc | apply pw_below_drewN | apply below_drew1) | exact HB.out))) : w.heap.size ≤ gb300)); clear HB; have HB := n0_; have BK300 := n1_; have GW300 := n2_; have GE300 := n3_; clear n0_ n1_ n2_ n3_; clear hb hbox hg; have hcz4_0 : w3.cell? ⟨gb300, 0, none⟩ = some (.int .i64 a0_0) := (blk_cell BK300.out 0).trans rfl; have hcz4_1 : w3.cell? ⟨gb300, 1, none⟩ = some (.slice A0_1 l0_1.length c0_1) := (blk_cell BK300.out 1).trans rfl; have hcz4_2 : w3.cell? ⟨gb300, 2, none⟩ = some (.slice A0_2 l0_2.length c0_2) := (blk_cell BK300.out 2).trans rfl; have hfz4_0 := blk_frozen BK300.out 0; have hfz4_1 := blk_frozen BK300.out 1; have hfz4_2 := blk_frozen BK300.out 2))
 (try simp only [Act.put, List.setIfInBounds_toArray, List.set_cons_zero, List.set_cons_succ])
 go_cut [5] (fun v5 wc => ∃ (kq : Nat) (x5_1 : Bool), v5 = .bool x5_1 ∧ Aside0 (regex_empty.j0 kq a0_0 x5_1 a0_0 l0_1 l0_2 = some r) ∧ Aside0 (kq ≤ k) ∧ Aside0 (wc.heap[gb300]? = some (.cells #[.int .i64 a0_0, (.slice A0_1 l0_1.length c0_1), (.slice A0_2 l0_2.length c0_2)] 48 (0, 0))) ∧ Aside0 (Below w.heap.size w wc))
 case first =>
  have H := HC2.out
  clear HC2
  by_cases c5 : a0_0 = 1
  · rw [if_pos c5] at H
    have c5b0 : (a0_0 == 1) = true := beq_iff_eq.mpr c5
    have c5b1 : (a0_0 != 1) = false := bne_eq_false_iff_eq.mpr c5
    clear c5
    (first | rw [c5b0] | (simp only [i64_w, i32_w]; rw [c5b0]) | skip)
    have H' := Aside0.mk H
    clear H
    go_wp2
    go_meet
    case rel => exact ⟨_, ((a0_0 == 1)), (by first | rfl | (simp; done) | (simp [*]; done)), H', ⟨by first | omega | exact Nat.le_refl _⟩, ⟨by (with_reducible repeat (first | refine blk_drewN ?_ _ | refine blk_drew ?_ | refine blk_alloc ?_ _)); exact BK300.out⟩, ⟨by repeat (first | (with_reducible first | exact HB.out | apply below_alloc | apply pw_below_drewN | apply below_drew1 | refine below_set ?_ GE300.out) | exact HB.out)⟩⟩
  · rw [if_neg c5] at H
    have c5b0 : (a0_0 == 1) = false := beq_eq_false_iff_ne.mpr c5
    have c5b1 : (a0_0 != 1) = true := bne_iff_ne.mpr c5
    (first | rw [c5b0] | (simp only [i64_w, i32_w]; rw [c5b0]) | skip)
    have H' := Aside0.mk H
    clear H
    go_wp2
    go_meet
    case rel => exact ⟨_, ((a0_0 == 5)), (by first | rfl | (simp; done) | (simp [*]; done)), H', ⟨by first | omega | exact Nat.le_refl _⟩, ⟨by (with_reducible repeat (first | refine blk_drewN ?_ _ | refine blk_drew ?_ | refine blk_alloc ?_ _)); exact BK300.out⟩, ⟨by repeat (first | (with_reducible first | exact HB.out | apply below_alloc | apply pw_below_drewN | apply below_drew1 | refine below_set ?_ GE300.out) | exact HB.out)⟩⟩
 case rest =>
  clear HC2
  try clear p2
  try clear c5
  try clear c5b0
  try clear c5b1
  try clear hcz4_0
  try clear hcz4_1
  try clear hcz4_2
  try clear hfz4_0
  try clear hfz4_1
  try clear hfz4_2
  obtain ⟨kq, x5_1, rfl, HA, HJ1, BK300, HB⟩ := hcut
  cases kq with
  | zero => exact absurd HA.out (by simp [regex_empty.j0])
  | succ kj1 =>
   have H := HA.out
   clear HA
   simp only [regex_empty.j0] at H
   by_cases c6 : x5_1 = true
   · subst c6
     have H1 : (some true) = some r := by rw [if_pos rfl] at H; exact H
     clear H
     have H := H1
     clear H1
     obtain rfl := Option.some.inj H
     go_wp2
     go_ret
     exact ⟨by first | rfl | (simp [errW_none, errW_some] <;> rfl) | (simp [*, errW_none, errW_some] <;> rfl), by repeat (first | (with_reducible first | exact HB.out | apply below_alloc | apply pw_below_drewN | apply below_drew1 | refine below_set ?_ GE300.out) | exact HB.out)⟩
   · replace c6 := Bool.eq_false_iff.mpr c6
     subst c6
     have H1 : (if a0_0 = 3 then (if 0 < (l0_2.length : Int) then ((regex_empty.f kj1 ((rd_T48 l0_2 0).f0) ((rd_T48 l0_2 0).f1) ((rd_T48 l0_2 0).f2)).bind fun t302 => (if t302 = true then (if 1 < (l0_2.length : Int) then ((regex_empty.f kj1 ((rd_T48 l0_2 1).f0) ((rd_T48 l0_2 1).f1) ((rd_T48 l0_2 1).f2)).bind fun t304 => (some t304)) else (none)) else (some false))) else (none)) else (if a0_0 = 4 then (if 0 < (l0_2.length : Int) then ((regex_empty.f kj1 ((rd_T48 l0_2 0).f0) ((rd_T48 l0_2 0).f1) ((rd_T48 l0_2 0).f2)).bind fun t306 => (if t306 = true then (some true) else (if 1 < (l0_2.length : Int) then ((regex_empty.f kj1 ((rd_T48 l0_2 1).f0) ((rd_T48 l0_2 1).f1) ((rd_T48 l0_2 1).f2)).bind fun t308 => (some t308)) else (none)))) else (none)) else (some false))) = some r := by rw [if_neg (show ¬ (false = true) by decide)] at H; exact H
     clear H
     have H := H1
     clear H1
     by_cases c7 : a0_0 = 3
     · rw [if_pos c7] at H
       have c7b0 : (a0_0 == 3) = true := beq_iff_eq.mpr c7
       have c7b1 : (a0_0 != 3) = false := bne_eq_false_iff_eq.mpr c7
       clear c7
       by_cases c8 : 0 < (l0_2.length : Int)
       · rw [if_pos c8] at H
         have c8b0 : decide (0 < (l0_2.length : Int)) = true := decide_eq_true c8
         have c8b1 : decide (0 < l0_2.length) = true := decide_eq_true (by omega)
         clear c8
         replace H := Option.bind_eq_some_iff.mp H
         obtain ⟨t302, A90, H⟩ := H
         replace H : (if t302 = true then (if 1 < (l0_2.length : Int) then ((regex_empty.f kj1 ((rd_T48 l0_2 1).f0) ((rd_T48 l0_2 1).f1) ((rd_T48 l0_2 1).f2)).bind fun t304 => (some t304)) else (none)) else (some false)) = some r := H
         have A9 := Aside0.mk A90
         clear A90
         by_cases c10 : t302 = true
         · subst c10
           have H1 : (if 1 < (l0_2.length : Int) then ((regex_empty.f kj1 ((rd_T48 l0_2 1).f0) ((rd_T48 l0_2 1).f1) ((rd_T48 l0_2 1).f2)).bind fun t304 => (some t304)) else (none)) = some r := by rw [if_pos rfl] at H; exact H
           clear H
           have H := H1
           clear H1
           by_cases c11 : 1 < (l0_2.length : Int)
           · rw [if_pos c11] at H
             have c11b0 : decide (1 < (l0_2.length : Int)) = true := decide_eq_true c11
             have c11b1 : decide (1 < l0_2.length) = true := decide_eq_true (by omega)
             clear c11
             replace H := Option.bind_eq_some_iff.mp H
             obtain ⟨t304, A120, H⟩ := H
             replace H : (some t304) = some r := H
             have A12 := Aside0.mk A120
             clear A120
             obtain rfl := Option.some.inj H
             have hcz13_0 : wc.cell? ⟨gb300, 0, none⟩ = some (.int .i64 a0_0) := (blk_cell BK300.out 0).trans rfl
             have hcz13_1 : wc.cell? ⟨gb300, 1, none⟩ = some (.slice A0_1 l0_1.length c0_1) := (blk_cell BK300.out 1).trans rfl
             have hcz13_2 : wc.cell? ⟨gb300, 2, none⟩ = some (.slice A0_2 l0_2.length c0_2) := (blk_cell BK300.out 2).trans rfl
             have hfz13_0 := blk_frozen BK300.out 0
             have hfz13_1 := blk_frozen BK300.out 1
             have hfz13_2 := blk_frozen BK300.out 2
             have p301 : 0 ≤ (0 : Int) := (by omega)
             have q301 : 0 < (l0_2.length : Int) := of_decide_eq_true (by first | (with_reducible assumption) | assumption)
             obtain ⟨ad301, A301_1, c301_1, A301_2, c301_2, e301, hx301_0, hx301_1, hx301_2, hl301_1, hi301_1, hl301_2, hi301_2⟩ := at_T48 HR0_2.out 0 p301 q301
             cases e301
             have qi301 : (0 < l0_2.length) = True := eq_true (by omega)
             (try rw [show ((0 : Int)).toNat = 0 from rfl] at hx301_0)
             (try rw [show 0 * 3 = 0 from rfl] at hx301_0)
             (try rw [Addr.add_zero'] at hx301_0)
             (try rw [show ((0 : Int)).toNat = 0 from rfl] at hx301_1)
             (try rw [show 0 * 3 = 0 from rfl] at hx301_1)
             (try rw [Addr.add_zero'] at hx301_1)
             (try rw [show ((0 : Int)).toNat = 0 from rfl] at hx301_2)
             (try rw [show 0 * 3 = 0 from rfl] at hx301_2)
             (try rw [Addr.add_zero'] at hx301_2)
             replace hx301_0 := (HB.out.cell (World.block_lt_of_cell? w _ hx301_0)).trans hx301_0
             replace hx301_1 := (HB.out.cell (World.block_lt_of_cell? w _ hx301_1)).trans hx301_1
             replace hx301_2 := (HB.out.cell (World.block_lt_of_cell? w _ hx301_2)).trans hx301_2
             have HR301_1 := Aside0.mk hi301_1
             have HC301_1 := Aside0.mk hl301_1
             clear hi301_1 hl301_1
             have HR301_2 := Aside0.mk hi301_2
             have HC301_2 := Aside0.mk hl301_2
             clear hi301_2 hl301_2
             replace p301 := eq_true p301
             replace q301 := eq_true q301
             go_wp2_with (first | ((with_reducible refine gate_callee (f := 54) rfl ?_); refine goesL_ (some 14) rfl rfl Tryd.func54 (by kernel_rfl) rfl #[.agg #[.int .i64 ((rd_T48 l0_2 0).f0), .slice A301_1 ((rd_T48 l0_2 0).f1).length c301_1, .slice A301_2 ((rd_T48 l0_2 0).f2).length c301_2]] rfl (by (try simp only [List.map_toArray, List.map_cons, List.map_nil]); first | done | rfl | (simp only [List.length_drop, List.length_take]; rfl)) ?_; (with_reducible refine (ih kj1 (by have := HJ1.out; omega) ((rd_T48 l0_2 0).f0) _ _ ((rd_T48 l0_2 0).f1) _ _ ((rd_T48 l0_2 0).f2) true _ ?side1 ?side2 ?side3 ?side4 A9.out).mono ?_); (case side1 => repeat (first | exact (Kd.C_below HR301_1.out HB.out) | (with_reducible refine Kd.C_alloc ?_ _) | (with_reducible refine Kd.C_drewN ?_ _) | (with_reducible refine Kd.C_drew ?_))); (case side2 => exact HC301_1.out); (case side3 => repeat (first | exact (Kd.C_below HR301_2.out HB.out) | (with_reducible refine Kd.C_alloc ?_ _) | (with_reducible refine Kd.C_drewN ?_ _) | (with_reducible refine Kd.C_drew ?_))); (case side4 => exact HC301_2.out); rintro e w14 ⟨rfl, hb⟩; refine ⟨_, rfl, ?_⟩; have n0_ := Aside0.mk (blk_below (g := gb300) (o := .cells #[.int .i64 a0_0, .slice A0_1 l0_1.length c0_1, .slice (some ad301) l0_2.length c0_2] 48 (0, 0)) (by (with_reducible repeat (first | refine blk_drewN ?_ _ | refine blk_drew ?_ | refine blk_alloc ?_ _)); exact BK300.out) hb); have n1_ := Aside0.mk (below_step (by repeat (first | (with_reducible first | exact HB.out | apply below_alloc | apply pw_below_drewN | apply below_drew1 | refine below_set ?_ GE300.out) | exact HB.out)) hb); clear BK300; clear HB; have BK300 := n0_; have HB := n1_; clear n0_ n1_; (try clear hb); (try clear hb2); (try clear hk); (try clear hi); have hcz15_0 : w14.cell? ⟨gb300, 0, none⟩ = some (.int .i64 a0_0) := (blk_cell BK300.out 0).trans rfl; have hcz15_1 : w14.cell? ⟨gb300, 1, none⟩ = some (.slice A0_1 l0_1.length c0_1) := (blk_cell BK300.out 1).trans rfl; have hcz15_2 : w14.cell? ⟨gb300, 2, none⟩ = some (.slice (some ad301) l0_2.length c0_2) := (blk_cell BK300.out 2).trans rfl; have hfz15_0 := blk_frozen BK300.out 0; have hfz15_1 := blk_frozen BK300.out 1; have hfz15_2 := blk_frozen BK300.out 2; have p303 : 0 ≤ (1 : Int) := (by omega); have q303 : 1 < (l0_2.length : Int) := of_decide_eq_true (by first | (with_reducible assumption) | assumption); obtain ⟨ad303, A303_1, c303_1, A303_2, c303_2, e303, hx303_0, hx303_1, hx303_2, hl303_1, hi303_1, hl303_2, hi303_2⟩ := at_T48 HR0_2.out 1 p303 q303; obtain rfl : ad301 = ad303 := (by injection e303); (try simp only [show (1 : Int).toNat = 1 from rfl, Nat.reduceMul, Nat.reduceEqDiff, Go.Addr.add, ↓reduceIte] at hx303_0); (try simp only [show (1 : Int).toNat = 1 from rfl, Nat.reduceMul, Nat.reduceEqDiff, Go.Addr.add, ↓reduceIte] at hx303_1); (try simp only [show (1 : Int).toNat = 1 from rfl, Nat.reduceMul, Nat.reduceEqDiff, Go.Addr.add, ↓reduceIte] at hx303_2); have qi303 : (1 < l0_2.length) = True := eq_true (by omega); (try rw [show ((1 : Int)).toNat = 1 from rfl] at hx303_0); (try rw [show 1 * 3 = 3 from rfl] at hx303_0); (try rw [show ((1 : Int)).toNat = 1 from rfl] at hx303_1); (try rw [show 1 * 3 = 3 from rfl] at hx303_1); (try rw [show ((1 : Int)).toNat = 1 from rfl] at hx303_2); (try rw [show 1 * 3 = 3 from rfl] at hx303_2); replace hx303_0 := (HB.out.cell (World.block_lt_of_cell? w _ hx303_0)).trans hx303_0; replace hx303_1 := (HB.out.cell (World.block_lt_of_cell? w _ hx303_1)).trans hx303_1; replace hx303_2 := (HB.out.cell (World.block_lt_of_cell? w _ hx303_2)).trans hx303_2; have HR303_1 := Aside0.mk hi303_1; have HC303_1 := Aside0.mk hl303_1; clear hi303_1 hl303_1; have HR303_2 := Aside0.mk hi303_2; have HC303_2 := Aside0.mk hl303_2; clear hi303_2 hl303_2; replace p303 := eq_true p303; replace q303 := eq_true q303) | (go_at_call 54; (with_reducible refine (ih kj1 (by have := HJ1.out; omega) ((rd_T48 l0_2 1).f0) _ _ ((rd_T48 l0_2 1).f1) _ _ ((rd_T48 l0_2 1).f2) t304 _ ?side1 ?side2 ?side3 ?side4 A12.out).mono ?_); (case side1 => repeat (first | exact (Kd.C_below HR303_1.out HB.out) | (with_reducible refine Kd.C_alloc ?_ _) | (with_reducible refine Kd.C_drewN ?_ _) | (with_reducible refine Kd.C_drew ?_))); (case side2 => exact HC303_1.out); (case side3 => repeat (first | exact (Kd.C_below HR303_2.out HB.out) | (with_reducible refine Kd.C_alloc ?_ _) | (with_reducible refine Kd.C_drewN ?_ _) | (with_reducible refine Kd.C_drew ?_))); (case side4 => exact HC303_2.out); rintro e w16 ⟨rfl, hb⟩; have n0_ := Aside0.mk (blk_below (g := gb300) (o := .cells #[.int .i64 a0_0, .slice A0_1 l0_1.length c0_1, .slice (some ad301) l0_2.length c0_2] 48 (0, 0)) (by (with_reducible repeat (first | refine blk_drewN ?_ _ | refine blk_drew ?_ | refine blk_alloc ?_ _)); exact BK300.out) hb); have n1_ := Aside0.mk (below_step (by repeat (first | (with_reducible first | exact HB.out | apply below_alloc | apply pw_below_drewN | apply below_drew1 | refine below_set ?_ GE300.out) | exact HB.out)) hb); clear BK300; clear HB; have BK300 := n0_; have HB := n1_; clear n0_ n1_; (try clear hb); (try clear hb2); (try clear hk); (try clear hi)))
             go_ret
             exact ⟨by first | rfl | (simp [errW_none, errW_some] <;> rfl) | (simp [*, errW_none, errW_some] <;> rfl), by repeat (first | (with_reducible first | exact HB.out | apply below_alloc | apply pw_below_drewN | apply below_drew1 | refine below_set ?_ GE300.out) | exact HB.out)⟩
           · rw [if_neg c11] at H
             exact absurd H (by simp)
         · replace c10 := Bool.eq_false_iff.mpr c10
           subst c10
           have H1 : (some false) = some r := by rw [if_neg (show ¬ (false = true) by decide)] at H; exact H
           clear H
           have H := H1
           clear H1
           obtain rfl := Option.some.inj H
           have hcz17_0 : wc.cell? ⟨gb300, 0, none⟩ = some (.int .i64 a0_0) := (blk_cell BK300.out 0).trans rfl
           have hcz17_1 : wc.cell? ⟨gb300, 1, none⟩ = some (.slice A0_1 l0_1.length c0_1) := (blk_cell BK300.out 1).trans rfl
           have hcz17_2 : wc.cell? ⟨gb300, 2, none⟩ = some (.slice A0_2 l0_2.length c0_2) := (blk_cell BK300.out 2).trans rfl
           have hfz17_0 := blk_frozen BK300.out 0
           have hfz17_1 := blk_frozen BK300.out 1
           have hfz17_2 := blk_frozen BK300.out 2
           have p301 : 0 ≤ (0 : Int) := (by omega)
           have q301 : 0 < (l0_2.length : Int) := of_decide_eq_true (by first | (with_reducible assumption) | assumption)
           obtain ⟨ad301, A301_1, c301_1, A301_2, c301_2, e301, hx301_0, hx301_1, hx301_2, hl301_1, hi301_1, hl301_2, hi301_2⟩ := at_T48 HR0_2.out 0 p301 q301
           cases e301
           have qi301 : (0 < l0_2.length) = True := eq_true (by omega)
           (try rw [show ((0 : Int)).toNat = 0 from rfl] at hx301_0)
           (try rw [show 0 * 3 = 0 from rfl] at hx301_0)
           (try rw [Addr.add_zero'] at hx301_0)
           (try rw [show ((0 : Int)).toNat = 0 from rfl] at hx301_1)
           (try rw [show 0 * 3 = 0 from rfl] at hx301_1)
           (try rw [Addr.add_zero'] at hx301_1)
           (try rw [show ((0 : Int)).toNat = 0 from rfl] at hx301_2)
           (try rw [show 0 * 3 = 0 from rfl] at hx301_2)
           (try rw [Addr.add_zero'] at hx301_2)
           replace hx301_0 := (HB.out.cell (World.block_lt_of_cell? w _ hx301_0)).trans hx301_0
           replace hx301_1 := (HB.out.cell (World.block_lt_of_cell? w _ hx301_1)).trans hx301_1
           replace hx301_2 := (HB.out.cell (World.block_lt_of_cell? w _ hx301_2)).trans hx301_2
           have HR301_1 := Aside0.mk hi301_1
           have HC301_1 := Aside0.mk hl301_1
           clear hi301_1 hl301_1
           have HR301_2 := Aside0.mk hi301_2
           have HC301_2 := Aside0.mk hl301_2
           clear hi301_2 hl301_2
           replace p301 := eq_true p301
           replace q301 := eq_true q301
           go_wp2_with (first | ((with_reducible refine gate_callee (f := 54) rfl ?_); refine goesL_ (some 14) rfl rfl Tryd.func54 (by kernel_rfl) rfl #[.agg #[.int .i64 ((rd_T48 l0_2 0).f0), .slice A301_1 ((rd_T48 l0_2 0).f1).length c301_1, .slice A301_2 ((rd_T48 l0_2 0).f2).length c301_2]] rfl (by (try simp only [List.map_toArray, List.map_cons, List.map_nil]); first | done | rfl | (simp only [List.length_drop, List.length_take]; rfl)) ?_; (with_reducible refine (ih kj1 (by have := HJ1.out; omega) ((rd_T48 l0_2 0).f0) _ _ ((rd_T48 l0_2 0).f1) _ _ ((rd_T48 l0_2 0).f2) false _ ?side1 ?side2 ?side3 ?side4 A9.out).mono ?_); (case side1 => repeat (first | exact (Kd.C_below HR301_1.out HB.out) | (with_reducible refine Kd.C_alloc ?_ _) | (with_reducible refine Kd.C_drewN ?_ _) | (with_reducible refine Kd.C_drew ?_))); (case side2 => exact HC301_1.out); (case side3 => repeat (first | exact (Kd.C_below HR301_2.out HB.out) | (with_reducible refine Kd.C_alloc ?_ _) | (with_reducible refine Kd.C_drewN ?_ _) | (with_reducible refine Kd.C_drew ?_))); (case side4 => exact HC301_2.out); rintro e w18 ⟨rfl, hb⟩; refine ⟨_, rfl, ?_⟩; have n0_ := Aside0.mk (blk_below (g := gb300) (o := .cells #[.int .i64 a0_0, .slice A0_1 l0_1.length c0_1, .slice (some ad301) l0_2.length c0_2] 48 (0, 0)) (by (with_reducible repeat (first | refine blk_drewN ?_ _ | refine blk_drew ?_ | refine blk_alloc ?_ _)); exact BK300.out) hb); have n1_ := Aside0.mk (below_step (by repeat (first | (with_reducible first | exact HB.out | apply below_alloc | apply pw_below_drewN | apply below_drew1 | refine below_set ?_ GE300.out) | exact HB.out)) hb); clear BK300; clear HB; have BK300 := n0_; have HB := n1_; clear n0_ n1_; (try clear hb); (try clear hb2); (try clear hk); (try clear hi)))
           go_ret
           exact ⟨by first | rfl | (simp [errW_none, errW_some] <;> rfl) | (simp [*, errW_none, errW_some] <;> rfl), by repeat (first | (with_reducible first | exact HB.out | apply below_alloc | apply pw_below_drewN | apply below_drew1 | refine below_set ?_ GE300.out) | exact HB.out)⟩
       · rw [if_neg c8] at H
         exact absurd H (by simp)
     · rw [if_neg c7] at H
       have c7b0 : (a0_0 == 3) = false := beq_eq_false_iff_ne.mpr c7
       have c7b1 : (a0_0 != 3) = true := bne_iff_ne.mpr c7
       by_cases c19 : a0_0 = 4
       · rw [if_pos c19] at H
         have c19b0 : (a0_0 == 4) = true := beq_iff_eq.mpr c19
         have c19b1 : (a0_0 != 4) = false := bne_eq_false_iff_eq.mpr c19
         clear c19
         by_cases c20 : 0 < (l0_2.length : Int)
         · rw [if_pos c20] at H
           have c20b0 : decide (0 < (l0_2.length : Int)) = true := decide_eq_true c20
           have c20b1 : decide (0 < l0_2.length) = true := decide_eq_true (by omega)
           clear c20
           replace H := Option.bind_eq_some_iff.mp H
           obtain ⟨t306, A210, H⟩ := H
           replace H : (if t306 = true then (some true) else (if 1 < (l0_2.length : Int) then ((regex_empty.f kj1 ((rd_T48 l0_2 1).f0) ((rd_T48 l0_2 1).f1) ((rd_T48 l0_2 1).f2)).bind fun t308 => (some t308)) else (none))) = some r := H
           have A21 := Aside0.mk A210
           clear A210
           by_cases c22 : t306 = true
           · subst c22
             have H1 : (some true) = some r := by rw [if_pos rfl] at H; exact H
             clear H
             have H := H1
             clear H1
             obtain rfl := Option.some.inj H
             have hcz23_0 : wc.cell? ⟨gb300, 0, none⟩ = some (.int .i64 a0_0) := (blk_cell BK300.out 0).trans rfl
             have hcz23_1 : wc.cell? ⟨gb300, 1, none⟩ = some (.slice A0_1 l0_1.length c0_1) := (blk_cell BK300.out 1).trans rfl
             have hcz23_2 : wc.cell? ⟨gb300, 2, none⟩ = some (.slice A0_2 l0_2.length c0_2) := (blk_cell BK300.out 2).trans rfl
             have hfz23_0 := blk_frozen BK300.out 0
             have hfz23_1 := blk_frozen BK300.out 1
             have hfz23_2 := blk_frozen BK300.out 2
             have p305 : 0 ≤ (0 : Int) := (by omega)
             have q305 : 0 < (l0_2.length : Int) := of_decide_eq_true (by first | (with_reducible assumption) | assumption)
             obtain ⟨ad305, A305_1, c305_1, A305_2, c305_2, e305, hx305_0, hx305_1, hx305_2, hl305_1, hi305_1, hl305_2, hi305_2⟩ := at_T48 HR0_2.out 0 p305 q305
             cases e305
             have qi305 : (0 < l0_2.length) = True := eq_true (by omega)
             (try rw [show ((0 : Int)).toNat = 0 from rfl] at hx305_0)
             (try rw [show 0 * 3 = 0 from rfl] at hx305_0)
             (try rw [Addr.add_zero'] at hx305_0)
             (try rw [show ((0 : Int)).toNat = 0 from rfl] at hx305_1)
             (try rw [show 0 * 3 = 0 from rfl] at hx305_1)
             (try rw [Addr.add_zero'] at hx305_1)
             (try rw [show ((0 : Int)).toNat = 0 from rfl] at hx305_2)
             (try rw [show 0 * 3 = 0 from rfl] at hx305_2)
             (try rw [Addr.add_zero'] at hx305_2)
             replace hx305_0 := (HB.out.cell (World.block_lt_of_cell? w _ hx305_0)).trans hx305_0
             replace hx305_1 := (HB.out.cell (World.block_lt_of_cell? w _ hx305_1)).trans hx305_1
             replace hx305_2 := (HB.out.cell (World.block_lt_of_cell? w _ hx305_2)).trans hx305_2
             have HR305_1 := Aside0.mk hi305_1
             have HC305_1 := Aside0.mk hl305_1
             clear hi305_1 hl305_1
             have HR305_2 := Aside0.mk hi305_2
             have HC305_2 := Aside0.mk hl305_2
             clear hi305_2 hl305_2
             replace p305 := eq_true p305
             replace q305 := eq_true q305
             go_wp2_with (first | ((with_reducible refine gate_callee (f := 54) rfl ?_); refine goesL_ (some 28) rfl rfl Tryd.func54 (by kernel_rfl) rfl #[.agg #[.int .i64 ((rd_T48 l0_2 0).f0), .slice A305_1 ((rd_T48 l0_2 0).f1).length c305_1, .slice A305_2 ((rd_T48 l0_2 0).f2).length c305_2]] rfl (by (try simp only [List.map_toArray, List.map_cons, List.map_nil]); first | done | rfl | (simp only [List.length_drop, List.length_take]; rfl)) ?_; (with_reducible refine (ih kj1 (by have := HJ1.out; omega) ((rd_T48 l0_2 0).f0) _ _ ((rd_T48 l0_2 0).f1) _ _ ((rd_T48 l0_2 0).f2) true _ ?side1 ?side2 ?side3 ?side4 A21.out).mono ?_); (case side1 => repeat (first | exact (Kd.C_below HR305_1.out HB.out) | (with_reducible refine Kd.C_alloc ?_ _) | (with_reducible refine Kd.C_drewN ?_ _) | (with_reducible refine Kd.C_drew ?_))); (case side2 => exact HC305_1.out); (case side3 => repeat (first | exact (Kd.C_below HR305_2.out HB.out) | (with_reducible refine Kd.C_alloc ?_ _) | (with_reducible refine Kd.C_drewN ?_ _) | (with_reducible refine Kd.C_drew ?_))); (case side4 => exact HC305_2.out); rintro e w24 ⟨rfl, hb⟩; refine ⟨_, rfl, ?_⟩; have n0_ := Aside0.mk (blk_below (g := gb300) (o := .cells #[.int .i64 a0_0, .slice A0_1 l0_1.length c0_1, .slice (some ad305) l0_2.length c0_2] 48 (0, 0)) (by (with_reducible repeat (first | refine blk_drewN ?_ _ | refine blk_drew ?_ | refine blk_alloc ?_ _)); exact BK300.out) hb); have n1_ := Aside0.mk (below_step (by repeat (first | (with_reducible first | exact HB.out | apply below_alloc | apply pw_below_drewN | apply below_drew1 | refine below_set ?_ GE300.out) | exact HB.out)) hb); clear BK300; clear HB; have BK300 := n0_; have HB := n1_; clear n0_ n1_; (try clear hb); (try clear hb2); (try clear hk); (try clear hi)))
             go_ret
             exact ⟨by first | rfl | (simp [errW_none, errW_some] <;> rfl) | (simp [*, errW_none, errW_some] <;> rfl), by repeat (first | (with_reducible first | exact HB.out | apply below_alloc | apply pw_below_drewN | apply below_drew1 | refine below_set ?_ GE300.out) | exact HB.out)⟩
           · replace c22 := Bool.eq_false_iff.mpr c22
             subst c22
             have H1 : (if 1 < (l0_2.length : Int) then ((regex_empty.f kj1 ((rd_T48 l0_2 1).f0) ((rd_T48 l0_2 1).f1) ((rd_T48 l0_2 1).f2)).bind fun t308 => (some t308)) else (none)) = some r := by rw [if_neg (show ¬ (false = true) by decide)] at H; exact H
             clear H
             have H := H1
             clear H1
             by_cases c25 : 1 < (l0_2.length : Int)
             · rw [if_pos c25] at H
               have c25b0 : decide (1 < (l0_2.length : Int)) = true := decide_eq_true c25
               have c25b1 : decide (1 < l0_2.length) = true := decide_eq_true (by omega)
               clear c25
               replace H := Option.bind_eq_some_iff.mp H
               obtain ⟨t308, A260, H⟩ := H
               replace H : (some t308) = some r := H
               have A26 := Aside0.mk A260
               clear A260
               obtain rfl := Option.some.inj H
               have hcz27_0 : wc.cell? ⟨gb300, 0, none⟩ = some (.int .i64 a0_0) := (blk_cell BK300.out 0).trans rfl
               have hcz27_1 : wc.cell? ⟨gb300, 1, none⟩ = some (.slice A0_1 l0_1.length c0_1) := (blk_cell BK300.out 1).trans rfl
               have hcz27_2 : wc.cell? ⟨gb300, 2, none⟩ = some (.slice A0_2 l0_2.length c0_2) := (blk_cell BK300.out 2).trans rfl
               have hfz27_0 := blk_frozen BK300.out 0
               have hfz27_1 := blk_frozen BK300.out 1
               have hfz27_2 := blk_frozen BK300.out 2
               have p305 : 0 ≤ (0 : Int) := (by omega)
               have q305 : 0 < (l0_2.length : Int) := of_decide_eq_true (by first | (with_reducible assumption) | assumption)
               obtain ⟨ad305, A305_1, c305_1, A305_2, c305_2, e305, hx305_0, hx305_1, hx305_2, hl305_1, hi305_1, hl305_2, hi305_2⟩ := at_T48 HR0_2.out 0 p305 q305
               cases e305
               have qi305 : (0 < l0_2.length) = True := eq_true (by omega)
               (try rw [show ((0 : Int)).toNat = 0 from rfl] at hx305_0)
               (try rw [show 0 * 3 = 0 from rfl] at hx305_0)
               (try rw [Addr.add_zero'] at hx305_0)
               (try rw [show ((0 : Int)).toNat = 0 from rfl] at hx305_1)
               (try rw [show 0 * 3 = 0 from rfl] at hx305_1)
               (try rw [Addr.add_zero'] at hx305_1)
               (try rw [show ((0 : Int)).toNat = 0 from rfl] at hx305_2)
               (try rw [show 0 * 3 = 0 from rfl] at hx305_2)
               (try rw [Addr.add_zero'] at hx305_2)
               replace hx305_0 := (HB.out.cell (World.block_lt_of_cell? w _ hx305_0)).trans hx305_0
               replace hx305_1 := (HB.out.cell (World.block_lt_of_cell? w _ hx305_1)).trans hx305_1
               replace hx305_2 := (HB.out.cell (World.block_lt_of_cell? w _ hx305_2)).trans hx305_2
               have HR305_1 := Aside0.mk hi305_1
               have HC305_1 := Aside0.mk hl305_1
               clear hi305_1 hl305_1
               have HR305_2 := Aside0.mk hi305_2
               have HC305_2 := Aside0.mk hl305_2
               clear hi305_2 hl305_2
               replace p305 := eq_true p305
               replace q305 := eq_true q305
               go_wp2_with (first | ((with_reducible refine gate_callee (f := 54) rfl ?_); refine goesL_ (some 28) rfl rfl Tryd.func54 (by kernel_rfl) rfl #[.agg #[.int .i64 ((rd_T48 l0_2 0).f0), .slice A305_1 ((rd_T48 l0_2 0).f1).length c305_1, .slice A305_2 ((rd_T48 l0_2 0).f2).length c305_2]] rfl (by (try simp only [List.map_toArray, List.map_cons, List.map_nil]); first | done | rfl | (simp only [List.length_drop, List.length_take]; rfl)) ?_; (with_reducible refine (ih kj1 (by have := HJ1.out; omega) ((rd_T48 l0_2 0).f0) _ _ ((rd_T48 l0_2 0).f1) _ _ ((rd_T48 l0_2 0).f2) false _ ?side1 ?side2 ?side3 ?side4 A21.out).mono ?_); (case side1 => repeat (first | exact (Kd.C_below HR305_1.out HB.out) | (with_reducible refine Kd.C_alloc ?_ _) | (with_reducible refine Kd.C_drewN ?_ _) | (with_reducible refine Kd.C_drew ?_))); (case side2 => exact HC305_1.out); (case side3 => repeat (first | exact (Kd.C_below HR305_2.out HB.out) | (with_reducible refine Kd.C_alloc ?_ _) | (with_reducible refine Kd.C_drewN ?_ _) | (with_reducible refine Kd.C_drew ?_))); (case side4 => exact HC305_2.out); rintro e w28 ⟨rfl, hb⟩; refine ⟨_, rfl, ?_⟩; have n0_ := Aside0.mk (blk_below (g := gb300) (o := .cells #[.int .i64 a0_0, .slice A0_1 l0_1.length c0_1, .slice (some ad305) l0_2.length c0_2] 48 (0, 0)) (by (with_reducible repeat (first | refine blk_drewN ?_ _ | refine blk_drew ?_ | refine blk_alloc ?_ _)); exact BK300.out) hb); have n1_ := Aside0.mk (below_step (by repeat (first | (with_reducible first | exact HB.out | apply below_alloc | apply pw_below_drewN | apply below_drew1 | refine below_set ?_ GE300.out) | exact HB.out)) hb); clear BK300; clear HB; have BK300 := n0_; have HB := n1_; clear n0_ n1_; (try clear hb); (try clear hb2); (try clear hk); (try clear hi); have hcz29_0 : w28.cell? ⟨gb300, 0, none⟩ = some (.int .i64 a0_0) := (blk_cell BK300.out 0).trans rfl; have hcz29_1 : w28.cell? ⟨gb300, 1, none⟩ = some (.slice A0_1 l0_1.length c0_1) := (blk_cell BK300.out 1).trans rfl; have hcz29_2 : w28.cell? ⟨gb300, 2, none⟩ = some (.slice (some ad305) l0_2.length c0_2) := (blk_cell BK300.out 2).trans rfl; have hfz29_0 := blk_frozen BK300.out 0; have hfz29_1 := blk_frozen BK300.out 1; have hfz29_2 := blk_frozen BK300.out 2; have p307 : 0 ≤ (1 : Int) := (by omega); have q307 : 1 < (l0_2.length : Int) := of_decide_eq_true (by first | (with_reducible assumption) | assumption); obtain ⟨ad307, A307_1, c307_1, A307_2, c307_2, e307, hx307_0, hx307_1, hx307_2, hl307_1, hi307_1, hl307_2, hi307_2⟩ := at_T48 HR0_2.out 1 p307 q307; obtain rfl : ad305 = ad307 := (by injection e307); (try simp only [show (1 : Int).toNat = 1 from rfl, Nat.reduceMul, Nat.reduceEqDiff, Go.Addr.add, ↓reduceIte] at hx307_0); (try simp only [show (1 : Int).toNat = 1 from rfl, Nat.reduceMul, Nat.reduceEqDiff, Go.Addr.add, ↓reduceIte] at hx307_1); (try simp only [show (1 : Int).toNat = 1 from rfl, Nat.reduceMul, Nat.reduceEqDiff, Go.Addr.add, ↓reduceIte] at hx307_2); have qi307 : (1 < l0_2.length) = True := eq_true (by omega); (try rw [show ((1 : Int)).toNat = 1 from rfl] at hx307_0); (try rw [show 1 * 3 = 3 from rfl] at hx307_0); (try rw [show ((1 : Int)).toNat = 1 from rfl] at hx307_1); (try rw [show 1 * 3 = 3 from rfl] at hx307_1); (try rw [show ((1 : Int)).toNat = 1 from rfl] at hx307_2); (try rw [show 1 * 3 = 3 from rfl] at hx307_2); replace hx307_0 := (HB.out.cell (World.block_lt_of_cell? w _ hx307_0)).trans hx307_0; replace hx307_1 := (HB.out.cell (World.block_lt_of_cell? w _ hx307_1)).trans hx307_1; replace hx307_2 := (HB.out.cell (World.block_lt_of_cell? w _ hx307_2)).trans hx307_2; have HR307_1 := Aside0.mk hi307_1; have HC307_1 := Aside0.mk hl307_1; clear hi307_1 hl307_1; have HR307_2 := Aside0.mk hi307_2; have HC307_2 := Aside0.mk hl307_2; clear hi307_2 hl307_2; replace p307 := eq_true p307; replace q307 := eq_true q307) | (go_at_call 54; (with_reducible refine (ih kj1 (by have := HJ1.out; omega) ((rd_T48 l0_2 1).f0) _ _ ((rd_T48 l0_2 1).f1) _ _ ((rd_T48 l0_2 1).f2) t308 _ ?side1 ?side2 ?side3 ?side4 A26.out).mono ?_); (case side1 => repeat (first | exact (Kd.C_below HR307_1.out HB.out) | (with_reducible refine Kd.C_alloc ?_ _) | (with_reducible refine Kd.C_drewN ?_ _) | (with_reducible refine Kd.C_drew ?_))); (case side2 => exact HC307_1.out); (case side3 => repeat (first | exact (Kd.C_below HR307_2.out HB.out) | (with_reducible refine Kd.C_alloc ?_ _) | (with_reducible refine Kd.C_drewN ?_ _) | (with_reducible refine Kd.C_drew ?_))); (case side4 => exact HC307_2.out); rintro e w30 ⟨rfl, hb⟩; have n0_ := Aside0.mk (blk_below (g := gb300) (o := .cells #[.int .i64 a0_0, .slice A0_1 l0_1.length c0_1, .slice (some ad305) l0_2.length c0_2] 48 (0, 0)) (by (with_reducible repeat (first | refine blk_drewN ?_ _ | refine blk_drew ?_ | refine blk_alloc ?_ _)); exact BK300.out) hb); have n1_ := Aside0.mk (below_step (by repeat (first | (with_reducible first | exact HB.out | apply below_alloc | apply pw_below_drewN | apply below_drew1 | refine below_set ?_ GE300.out) | exact HB.out)) hb); clear BK300; clear HB; have BK300 := n0_; have HB := n1_; clear n0_ n1_; (try clear hb); (try clear hb2); (try clear hk); (try clear hi)))
               go_ret
               exact ⟨by first | rfl | (simp [errW_none, errW_some] <;> rfl) | (simp [*, errW_none, errW_some] <;> rfl), by repeat (first | (with_reducible first | exact HB.out | apply below_alloc | apply pw_below_drewN | apply below_drew1 | refine below_set ?_ GE300.out) | exact HB.out)⟩
             · rw [if_neg c25] at H
               exact absurd H (by simp)
         · rw [if_neg c20] at H
           exact absurd H (by simp)
       · rw [if_neg c19] at H
         have c19b0 : (a0_0 == 4) = false := beq_eq_false_iff_ne.mpr c19
         have c19b1 : (a0_0 != 4) = true := bne_iff_ne.mpr c19
         obtain rfl := Option.some.inj H
         go_wp2
         go_ret
         exact ⟨by first | rfl | (simp [errW_none, errW_some] <;> rfl) | (simp [*, errW_none, errW_some] <;> rfl), by repeat (first | (with_reducible first | exact HB.out | apply below_alloc | apply pw_below_drewN | apply below_drew1 | refine below_set ?_ GE300.out) | exact HB.out)⟩
end Go.Proofs.YthdfmbmbjpmlaaaDoor.Rn
end
section
namespace Go.Proofs
open Go.Shelf
def Tryd.sortSpan_ren : Go.Shelf.Ren := ⟨fun | 6 => 74 | 15 => 79 | 14 => 78 | 28 => 89 | 29 => 90 | 20 => 81 | 21 => 82 | 22 => 83 | 23 => 84 | 24 => 85 | 25 => 86 | 26 => 87 | 27 => 88 | 46 => 91 | 47 => 92 | 48 => 93 | 49 => 94 | 50 => 95 | 57 => 96 | n => n, fun | 22 => 102 | 24 => 105 | 25 => 110 | 3 => 3 | 39 => 33 | 0 => 0 | 53 => 124 | 55 => 126 | 4 => 4 | 46 => 117 | 45 => 116 | 50 => 121 | 5 => 5 | 9 => 9 | 66 => 127 | 70 => 131 | 76 => 133 | 77 => 40 | n => n, fun | n => n⟩
theorem Tryd.sortSpan : Go.Proofs.SlLaysF0.n6 Tryd.prog Tryd.sortSpan_ren := {
 mixed := by kernel_rfl
 f6 := ⟨Tryd.f74.name, by decide, Tryd.func74.trans (congrArg some (by kernel_rfl))⟩
 f14 := ⟨Tryd.f78.name, by decide, Tryd.func78.trans (congrArg some (by kernel_rfl))⟩
 f15 := Tryd.func79.trans (congrArg some (by kernel_rfl))
 f20 := ⟨Tryd.f81.name, by decide, Tryd.func81.trans (congrArg some (by kernel_rfl))⟩
 f21 := ⟨Tryd.f82.name, by decide, Tryd.func82.trans (congrArg some (by kernel_rfl))⟩
 f22 := ⟨Tryd.f83.name, by decide, Tryd.func83.trans (congrArg some (by kernel_rfl))⟩
 f23 := ⟨Tryd.f84.name, by decide, Tryd.func84.trans (congrArg some (by kernel_rfl))⟩
 f24 := ⟨Tryd.f85.name, by decide, Tryd.func85.trans (congrArg some (by kernel_rfl))⟩
 f25 := ⟨Tryd.f86.name, by decide, Tryd.func86.trans (congrArg some (by kernel_rfl))⟩
 f26 := ⟨Tryd.f87.name, by decide, Tryd.func87.trans (congrArg some (by kernel_rfl))⟩
 f27 := ⟨Tryd.f88.name, by decide, Tryd.func88.trans (congrArg some (by kernel_rfl))⟩
 f28 := Tryd.func89.trans (congrArg some (by kernel_rfl))
 f29 := Tryd.func90.trans (congrArg some (by kernel_rfl))
 f46 := ⟨Tryd.f91.name, by decide, Tryd.func91.trans (congrArg some (by kernel_rfl))⟩
 f47 := Tryd.func92.trans (congrArg some (by kernel_rfl))
 f48 := Tryd.func93.trans (congrArg some (by kernel_rfl))
 f49 := ⟨Tryd.f94.name, by decide, Tryd.func94.trans (congrArg some (by kernel_rfl))⟩
 f50 := ⟨Tryd.f95.name, by decide, Tryd.func95.trans (congrArg some (by kernel_rfl))⟩
 f57 := ⟨Tryd.f96.name, by decide, Tryd.func96.trans (congrArg some (by kernel_rfl))⟩
 t0 := Tryd.underlying0
 a0 := Tryd.isAgg0
 z0 := Tryd.sizeOf0
 v0 := Tryd.zeroValue0
 t3 := Tryd.underlying3
 a3 := Tryd.isAgg3
 z3 := Tryd.sizeOf3
 v3 := Tryd.zeroValue3
 t4 := Tryd.underlying4
 a4 := Tryd.isAgg4
 z4 := Tryd.sizeOf4
 v4 := Tryd.zeroValue4
 t5 := Tryd.underlying5
 a5 := Tryd.isAgg5
 z5 := Tryd.sizeOf5
 v5 := Tryd.zeroValue5
 t9 := Tryd.underlying9
 a9 := Tryd.isAgg9
 z9 := Tryd.sizeOf9
 v9 := Tryd.zeroValue9
 t22 := Tryd.underlying102
 a22 := Tryd.isAgg102
 z22 := Tryd.sizeOf102
 v22 := Tryd.zeroValue102
 t25 := Tryd.underlying110
 a25 := Tryd.isAgg110
 z25 := Tryd.sizeOf110
 v25 := Tryd.zeroValue110
 t39 := Tryd.underlying33
 a39 := Tryd.isAgg33
 z39 := Tryd.sizeOf33
 v39 := Tryd.zeroValue33
 t45 := Tryd.underlying116
 a45 := Tryd.isAgg116
 z45 := Tryd.sizeOf116
 v45 := Tryd.zeroValue116
 t46 := Tryd.underlying117
 a46 := Tryd.isAgg117
 z46 := Tryd.sizeOf117
 v46 := Tryd.zeroValue117
 t50 := Tryd.underlying121
 a50 := Tryd.isAgg121
 z50 := Tryd.sizeOf121
 v50 := Tryd.zeroValue121
 t53 := Tryd.underlying124
 a53 := Tryd.isAgg124
 z53 := Tryd.sizeOf124
 v53 := Tryd.zeroValue124
 t55 := Tryd.underlying126
 a55 := Tryd.isAgg126
 z55 := Tryd.sizeOf126
 v55 := Tryd.zeroValue126
 t66 := Tryd.underlying127
 a66 := Tryd.isAgg127
 z66 := Tryd.sizeOf127
 v66 := Tryd.zeroValue127
 t70 := Tryd.underlying131
 a70 := Tryd.isAgg131
 z70 := Tryd.sizeOf131
 v70 := Tryd.zeroValue131
 t76 := Tryd.underlying133
 a76 := Tryd.isAgg133
 z76 := Tryd.sizeOf133
 v76 := Tryd.zeroValue133
 t77 := Tryd.underlying40
 a77 := Tryd.isAgg40
 z77 := Tryd.sizeOf40
 v77 := Tryd.zeroValue40 }
def Tryd.cmpInt_ren : Go.Shelf.Ren := ⟨fun | 5 => 76 | 7 => 80 | n => n, fun | 22 => 3 | 3 => 3 | 4 => 4 | n => n, fun | n => n⟩
theorem Tryd.cmpInt : Go.Proofs.SlLaysC2.n5 Tryd.prog Tryd.cmpInt_ren := {
 mixed := by kernel_rfl
 f5 := ⟨Tryd.f76.name, by decide, Tryd.func76.trans (congrArg some (by kernel_rfl))⟩
 f7 := ⟨Tryd.f80.name, by decide, Tryd.func80.trans (congrArg some (by kernel_rfl))⟩
 t3 := Tryd.underlying3
 a3 := Tryd.isAgg3
 z3 := Tryd.sizeOf3
 v3 := Tryd.zeroValue3
 t4 := Tryd.underlying4
 a4 := Tryd.isAgg4
 z4 := Tryd.sizeOf4
 v4 := Tryd.zeroValue4
 t22 := Tryd.underlying3
 a22 := Tryd.isAgg3
 z22 := Tryd.sizeOf3
 v22 := Tryd.zeroValue3 }
end Go.Proofs
end
section
set_option linter.unusedVariables false
namespace Go.Proofs.YthdfmbmbjpmlaaaDoor.Rn
abbrev Sp := S105
def inS (l : List Sp) (n : Int) : Prop := ∃ x, x ∈ l ∧ x.1 ≤ n ∧ n < x.2
theorem inS_nil (n : Int) : ¬ inS [] n := fun ⟨_, h, _⟩ => by cases h
theorem inS_cons (x : Sp) (l : List Sp) (n : Int) : inS (x :: l) n ↔ (x.1 ≤ n ∧ n < x.2) ∨ inS l n := by
 unfold inS
 constructor
 · rintro ⟨y, hy, h⟩
   rcases List.mem_cons.1 hy with rfl | hy
   · exact .inl h
   · exact .inr ⟨y, hy, h⟩
 · rintro (h | ⟨y, hy, h⟩)
   · exact ⟨x, List.mem_cons_self, h⟩
   · exact ⟨y, List.mem_cons_of_mem _ hy, h⟩
theorem inS_append (l m : List Sp) (n : Int) : inS (l ++ m) n ↔ inS l n ∨ inS m n := by
 induction l with
 | nil => simp [inS_nil]
 | cons x l ih => rw [List.cons_append, inS_cons, inS_cons, ih, or_assoc]
def NFb : Int → List Sp → Prop
 | _, [] => True
 | lo, x :: r => lo < x.1 ∧ x.1 < x.2 ∧ NFb x.2 r
theorem NFb_lt {l : List Sp} : ∀ {lo : Int}, NFb lo l → ∀ n, inS l n → lo < n := by
 induction l with
 | nil => intro lo _ n h; exact absurd h (inS_nil n)
 | cons x r ih =>
  intro lo h n hn
  obtain ⟨h1, h2, h3⟩ := h
  rcases (inS_cons x r n).1 hn with h4 | h4
  · omega
  · have := ih h3 n h4
    omega
theorem NFb_unique : ∀ (a b : List Sp) (lo : Int), NFb lo a → NFb lo b → (∀ n, inS a n ↔ inS b n) → a = b
 | [], [], _, _, _, _ => rfl
 | [], y :: t, _, _, hb, h => absurd ((h y.1).2 ((inS_cons y t y.1).2 (.inl ⟨by omega, hb.2.1⟩))) (inS_nil _)
 | x :: r, [], _, ha, _, h => absurd ((h x.1).1 ((inS_cons x r x.1).2 (.inl ⟨by omega, ha.2.1⟩))) (inS_nil _)
 | x :: r, y :: t, lo, ha, hb, h => by
  obtain ⟨a1, a2, a3⟩ := ha
  obtain ⟨b1, b2, b3⟩ := hb
  have e1 : x.1 = y.1 := by
   have h1 := (h x.1).1 ((inS_cons x r x.1).2 (.inl ⟨by omega, a2⟩))
   have h2 := (h y.1).2 ((inS_cons y t y.1).2 (.inl ⟨by omega, b2⟩))
   rcases (inS_cons y t x.1).1 h1 with h3 | h3 <;> rcases (inS_cons x r y.1).1 h2 with h4 | h4
   · omega
   · have := NFb_lt a3 _ h4; omega
   · have := NFb_lt b3 _ h3; omega
   · have := NFb_lt a3 _ h4; have := NFb_lt b3 _ h3; omega
  have e2 : x.2 = y.2 := by
   by_cases h1 : x.2 < y.2
   · have h2 := (h x.2).2 ((inS_cons y t x.2).2 (.inl ⟨by omega, h1⟩))
     rcases (inS_cons x r x.2).1 h2 with h3 | h3
     · omega
     · have := NFb_lt a3 _ h3; omega
   · by_cases h4 : y.2 < x.2
     · have h2 := (h y.2).1 ((inS_cons x r y.2).2 (.inl ⟨by omega, h4⟩))
       rcases (inS_cons y t y.2).1 h2 with h3 | h3
       · omega
       · have := NFb_lt b3 _ h3; omega
     · omega
  obtain ⟨x1, x2⟩ := x
  obtain ⟨y1, y2⟩ := y
  dsimp only at e1 e2 a1 a2 a3 b1 b2 b3
  subst e1 e2
  congr 1
  refine NFb_unique r t x2 a3 b3 (fun n => ⟨fun h1 => ?_, fun h1 => ?_⟩)
  · have h2 := NFb_lt a3 n h1
    rcases (inS_cons (⟨x1, x2⟩ : Sp) t n).1 ((h n).1 ((inS_cons (⟨x1, x2⟩ : Sp) r n).2 (.inr h1))) with h3 | h3
    · dsimp only at h3; omega
    · exact h3
  · have h2 := NFb_lt b3 n h1
    rcases (inS_cons (⟨x1, x2⟩ : Sp) r n).1 ((h n).2 ((inS_cons (⟨x1, x2⟩ : Sp) t n).2 (.inr h1))) with h3 | h3
    · dsimp only at h3; omega
    · exact h3
theorem NFb_snoc {p : List Sp} {y x : Sp} : ∀ {lo : Int}, NFb lo (p ++ [y]) → y.2 < x.1 → x.1 < x.2 → NFb lo (p ++ [y] ++ [x]) := by
 induction p with
 | nil => intro lo h h1 h2; exact ⟨h.1, h.2.1, h1, h2, trivial⟩
 | cons z p ih => intro lo h h1 h2; exact ⟨h.1, h.2.1, ih h.2.2 h1 h2⟩
theorem NFb_last {p : List Sp} {y : Sp} {m : Int} : ∀ {lo : Int}, NFb lo (p ++ [y]) → y.1 < m → NFb lo (p ++ [(⟨y.1, m⟩ : Sp)]) := by
 induction p with
 | nil => intro lo h h1; exact ⟨h.1, h1, trivial⟩
 | cons z p ih => intro lo h h1; exact ⟨h.1, h.2.1, ih h.2.2 h1⟩
theorem NFb_end {p : List Sp} {y : Sp} : ∀ {lo : Int}, NFb lo (p ++ [y]) → lo < y.1 ∧ y.1 < y.2 := by
 induction p with
 | nil => intro lo h; exact ⟨h.1, h.2.1⟩
 | cons z p ih => intro lo h; have := ih h.2.2; have h1 := h.1; have h2 := h.2.1; exact ⟨by omega, this.2⟩
def stepM (out : List Sp) (x : Sp) : List Sp :=
 match out.getLast? with
 | some y => if x.1 ≤ y.2 then out.dropLast ++ [(⟨y.1, max y.2 x.2⟩ : Sp)] else out ++ [x]
 | none => [x]
def mergeS (l : List Sp) : List Sp := l.foldl stepM []
theorem stepM_snoc (p : List Sp) (y x : Sp) : stepM (p ++ [y]) x = if x.1 ≤ y.2 then p ++ [(⟨y.1, max y.2 x.2⟩ : Sp)] else p ++ [y] ++ [x] := by
 unfold stepM
 rw [List.getLast?_concat]
 dsimp only
 rw [List.dropLast_concat]
theorem mergeS_snoc (l : List Sp) (x : Sp) : mergeS (l ++ [x]) = stepM (mergeS l) x := by simp [mergeS]
def Merged (l out : List Sp) : Prop :=
 NFb (-1) out ∧ (∀ n, inS out n ↔ inS l n) ∧ (out = [] ↔ l = []) ∧ (∀ p y, out = p ++ [y] → ∃ z, z ∈ l ∧ y.1 ≤ z.1)
theorem merged_step {l out : List Sp} {x : Sp} (h : Merged l out) (h0 : 0 ≤ x.1) (h1 : x.1 < x.2) (hs : ∀ z, z ∈ l → z.1 ≤ x.1) : Merged (l ++ [x]) (stepM out x) := by
 obtain ⟨a1, a2, a3, a4⟩ := h
 have hmem : ∀ n, inS [x] n ↔ x.1 ≤ n ∧ n < x.2 := fun n => by rw [inS_cons]; simp [inS_nil]
 rcases List.eq_nil_or_concat out with rfl | ⟨p, y, rfl⟩
 · have hl : l = [] := a3.1 rfl
   subst hl
   refine ⟨⟨by omega, h1, trivial⟩, fun n => Iff.rfl, by simp [stepM], fun p y e => ⟨x, by simp, ?_⟩⟩
   cases p with
   | nil => have : x = y := by simpa [stepM] using e
            rw [this]; omega
   | cons z p => simp [stepM] at e
 · rw [List.concat_eq_append] at *
   obtain ⟨z, hz, hyz⟩ := a4 p y rfl
   have hyx : y.1 ≤ x.1 := by have := hs z hz; omega
   have hye := NFb_end a1
   have hne : ¬ l = [] := fun e => by rw [e] at hz; cases hz
   rw [stepM_snoc]
   by_cases h2 : x.1 ≤ y.2
   · rw [if_pos h2]
     refine ⟨NFb_last a1 (by omega), fun n => ?_, by simp, fun q u e => ?_⟩
     · rw [inS_append l, ← a2, inS_append, inS_append, hmem, inS_cons, inS_cons]
       simp only [inS_nil, or_false]
       constructor
       · rintro (h3 | h3)
         · exact .inl (.inl h3)
         · by_cases h4 : n < y.2
           · exact .inl (.inr ⟨h3.1, h4⟩)
           · exact .inr (by omega)
       · rintro ((h3 | h3) | h3)
         · exact .inl h3
         · exact .inr (by omega)
         · exact .inr (by omega)
     · have := List.append_inj' e rfl
       obtain ⟨_, e2⟩ := this
       injection e2 with e2
       refine ⟨z, List.mem_append_left _ hz, ?_⟩
       rw [← e2]
       exact hyz
   · rw [if_neg h2]
     refine ⟨NFb_snoc a1 (by omega) h1, fun n => ?_, by simp, fun q u e => ?_⟩
     · rw [inS_append, inS_append l, a2]
     · have := List.append_inj' e rfl
       obtain ⟨_, e2⟩ := this
       injection e2 with e2
       exact ⟨x, by simp, by rw [← e2]; omega⟩
def Rising : List Sp → Prop
 | [] => True
 | x :: r => (∀ z, z ∈ r → x.1 ≤ z.1) ∧ Rising r
theorem merged_all (l : List Sp) (hr : ∀ i j (hi : i < j) (hj : j < l.length), (l[i]'(by omega)).1 ≤ l[j].1) (hv : ∀ x, x ∈ l → 0 ≤ x.1 ∧ x.1 < x.2) : ∀ k, k ≤ l.length → Merged (l.take k) (mergeS (l.take k)) := by
 intro k
 induction k with
 | zero => intro _; exact ⟨trivial, fun n => Iff.rfl, by simp [mergeS], fun p y e => by simp [mergeS] at e⟩
 | succ k ih =>
  intro hk
  have h := ih (by omega)
  rw [List.take_succ_eq_append_getElem (by omega), mergeS_snoc]
  have hx := hv l[k] (List.getElem_mem _)
  refine merged_step h hx.1 hx.2 (fun z hz => ?_)
  obtain ⟨i, hi, rfl⟩ := List.mem_iff_getElem.1 hz
  rw [List.length_take] at hi
  rw [List.getElem_take]
  exact hr i k (by omega) (by omega)
theorem merged_of {l : List Sp} (hr : ∀ i j (hi : i < j) (hj : j < l.length), (l[i]'(by omega)).1 ≤ l[j].1) (hv : ∀ x, x ∈ l → 0 ≤ x.1 ∧ x.1 < x.2) : NFb (-1) (mergeS l) ∧ ∀ n, inS (mergeS l) n ↔ inS l n := by
 have h := merged_all l hr hv l.length (Nat.le_refl _)
 rw [List.take_length] at h
 exact ⟨h.1, h.2.1⟩
theorem inS_perm {a b : List Sp} (h : ∀ x, x ∈ a ↔ x ∈ b) (n : Int) : inS a n ↔ inS b n :=
 ⟨fun ⟨x, hx, h1⟩ => ⟨x, (h x).1 hx, h1⟩, fun ⟨x, hx, h1⟩ => ⟨x, (h x).2 hx, h1⟩⟩
def insS (x : Sp) : List Sp → List Sp
 | [] => [x]
 | y :: r => if x.1 ≤ y.1 then x :: y :: r else y :: insS x r
def sortS : List Sp → List Sp
 | [] => []
 | x :: r => insS x (sortS r)
theorem insS_mem (x z : Sp) : ∀ l, z ∈ insS x l ↔ z = x ∨ z ∈ l
 | [] => by simp [insS]
 | y :: r => by
  unfold insS
  split
  · simp
  · rw [List.mem_cons, insS_mem x z r, List.mem_cons]
    constructor
    · rintro (h | h | h) <;> simp [h]
    · rintro (h | h | h) <;> simp [h]
theorem sortS_mem (z : Sp) : ∀ l, z ∈ sortS l ↔ z ∈ l
 | [] => by simp [sortS]
 | x :: r => by rw [sortS, insS_mem, sortS_mem z r, List.mem_cons]
theorem insS_rising (x : Sp) : ∀ l, Rising l → Rising (insS x l)
 | [], _ => ⟨(fun z h => by cases h), trivial⟩
 | y :: r, h => by
  unfold insS
  split
  · rename_i h1
    refine ⟨fun z hz => ?_, h⟩
    rcases List.mem_cons.1 hz with rfl | hz
    · exact h1
    · have := h.1 z hz; omega
  · rename_i h1
    refine ⟨fun z hz => ?_, insS_rising x r h.2⟩
    rcases (insS_mem x z r).1 hz with rfl | hz
    · omega
    · exact h.1 z hz
theorem sortS_rising : ∀ l, Rising (sortS l)
 | [] => trivial
 | x :: r => insS_rising x _ (sortS_rising r)
theorem rising_at : ∀ (l : List Sp), Rising l → ∀ i j (hi : i < j) (hj : j < l.length), (l[i]'(by omega)).1 ≤ l[j].1
 | [], _, i, j, hi, hj => absurd hj (by simp)
 | x :: r, h, i, j, hi, hj => by
  cases j with
  | zero => omega
  | succ j =>
   cases i with
   | zero => exact h.1 _ (by simp)
   | succ i => simpa using rising_at r h.2 i j (by omega) (by simpa using hj)
def nfS (l : List Sp) : List Sp := mergeS (sortS l)
theorem nfS_spec {l : List Sp} (hv : ∀ x, x ∈ l → 0 ≤ x.1 ∧ x.1 < x.2) : NFb (-1) (nfS l) ∧ ∀ n, inS (nfS l) n ↔ inS l n := by
 have h := merged_of (l := sortS l) (rising_at _ (sortS_rising l)) (fun x hx => hv x ((sortS_mem x l).1 hx))
 exact ⟨h.1, fun n => (h.2 n).trans (inS_perm (fun x => sortS_mem x l) n)⟩
theorem merge_any {l s : List Sp} (hp : ∀ x, x ∈ s ↔ x ∈ l) (hr : ∀ i j (hi : i < j) (hj : j < s.length), (s[i]'(by omega)).1 ≤ s[j].1) (hv : ∀ x, x ∈ l → 0 ≤ x.1 ∧ x.1 < x.2) : mergeS s = nfS l := by
 have h1 := merged_of hr (fun x hx => hv x ((hp x).1 hx))
 have h2 := nfS_spec hv
 exact NFb_unique _ _ (-1) h1.1 h2.1 (fun n => (h1.2 n).trans ((inS_perm hp n).trans (h2.2 n).symm))
end Go.Proofs.YthdfmbmbjpmlaaaDoor.Rn
end
section
set_option linter.unusedVariables false
set_option linter.unusedSimpArgs false
namespace Go.Proofs.YthdfmbmbjpmlaaaDoor.Rn
open Go Go.RowKit Go.Proofs.YthdfmbmbjpmlaaaDoorW.PrintWords Go.Proofs.YthdfmbmbjpmlaaaDoorW.PrintLast Go.Proofs.YthdfmbmbjpmlaaaDoorW.PrintMore
instance : Inhabited Sp := ⟨⟨0, 0⟩⟩
def encS (x : Sp) : List Value := [.int .i64 x.f0, .int .i64 x.f1]
def cmpS (x y : Sp) : Int := Lib.compareInt x.f0 y.f0
theorem ltS (x y : Sp) : Go.Proofs.ltOf cmpS x y = decide (x.f0 < y.f0) := by
 unfold Go.Proofs.ltOf cmpS Lib.compareInt
 by_cases h1 : x.f0 < y.f0
 · simp [h1]
 · by_cases h2 : y.f0 < x.f0 <;> simp [h1, h2]
theorem swoS : Go.Sort.SWO (Go.Proofs.ltOf cmpS) where
 irrefl x := by rw [ltS]; simp
 trans x y z h1 h2 := by rw [ltS] at *; simp at *; omega
 ntrans x y z h1 h2 := by rw [ltS] at *; simp at *; omega
set_option maxHeartbeats 1000000 in
theorem cmp_span (x y : Sp) (W : World) : Calls Tryd.prog 75 #[.agg #[.int .i64 x.f0, .int .i64 x.f1], .agg #[.int .i64 y.f0, .int .i64 y.f1]] W fun e w' => e = .returned (.int .i64 (cmpS x y)) ∧ ∃ q os', w' = Go.Sort.grow (W.drewN q) os' := by
 have hcon := fun W' => Go.Proofs.AnyG.cmp_Compare_int Go.Proofs.Tryd.cmpInt x.f0 y.f0 W'
 change ∀ W', Calls Tryd.prog 76 _ _ _ at hcon
 unfold cmpS
 generalize Lib.compareInt x.f0 y.f0 = r at hcon ⊢
 go_enter Tryd.func75, Tryd.ntmps75
 go_wp2_with (go_at_call 76; refine (hcon _).mono ?_; rintro e w' ⟨rfl, rfl⟩)
 go_ret
 exact ⟨rfl, 0, _, by rw [Go.Sort.alloc_eq_grow, Go.Sort.alloc_eq_grow, Go.Sort.grow_grow]; rfl⟩
theorem cmp_lays (blk off size : Nat) (w : World) : Go.Proofs.CmpLays Tryd.prog 75 #[] encS 2 cmpS blk off size w :=
 fun _ _ _ _ x y => cmp_span x y _
theorem flat_inner {M : Sp → List Value → Prop} (hM : ∀ x cs, M x cs → cs = encS x) {xs : List Sp} {inner : List Value} (h : Reps M 2 xs inner) (t : Nat) (ht : t < xs.length * 2) : inner[t]? = some ((encS (xs.toArray[t / 2]!))[t % 2]!) := by
 have hj : t / 2 < xs.length := by omega
 have h1 := hM _ _ (h.2 (t / 2) xs[t / 2] (List.getElem?_eq_getElem hj))
 have h2 : xs.toArray[t / 2]! = xs[t / 2] := by simp [hj]
 rw [h2]
 have h3 : ((inner.drop (t / 2 * 2)).take 2)[t % 2]? = inner[t]? := by
  rw [List.getElem?_take, if_pos (by omega), List.getElem?_drop]
  congr 1
  omega
 rw [← h3, h1]
 have h4 : t % 2 = 0 ∨ t % 2 = 1 := by omega
 rcases h4 with h4 | h4 <;> rw [h4] <;> rfl
theorem reps_flat {M : Sp → List Value → Prop} (hM : ∀ x, M x (encS x)) (d : Array Sp) : Reps M 2 d.toList (Go.Sort.flatK encS 2 d).toList := by
 refine ⟨by simp, fun j p hp => ?_⟩
 have hj : j < d.size := by have := (List.getElem?_eq_some_iff.1 hp).1; simpa using this
 have e : ((Go.Sort.flatK encS 2 d).toList.drop (j * 2)).take 2 = encS p := by
  have hp2 : d[j]! = p := by
   have := (List.getElem?_eq_some_iff.1 hp).2
   simp [hj]
   simpa using this
  apply List.ext_getElem?
  intro t
  rw [List.getElem?_take]
  by_cases h2 : t < 2
  · rw [if_pos h2, List.getElem?_drop]
    have h3 := Go.Sort.get_flatK encS 2 d (j * 2 + t) (by omega)
    have h4 : j * 2 + t < (Go.Sort.flatK encS 2 d).size := by simp; omega
    rw [Array.getElem?_toList, Array.getElem?_eq_getElem h4]
    rw [getElem!_pos (Go.Sort.flatK encS 2 d) (j * 2 + t) h4] at h3
    rw [h3, show (j * 2 + t) / 2 = j by omega, show (j * 2 + t) % 2 = t by omega, hp2]
    have h5 : t = 0 ∨ t = 1 := by omega
    rcases h5 with rfl | rfl <;> rfl
  · rw [if_neg h2]
    symm
    rw [List.getElem?_eq_none]
    show 2 ≤ t
    omega
 rw [e]
 exact hM p
theorem sorted_blk {w : World} {g m : Nat} {cur : Array Value} {e : TypeId} (h : w.heap[g]? = some (.cells cur e (0, 0))) (d : Array Sp) (os : Array Obj) :
 (Go.Proofs.sortWorldK encS 2 w g 0 m d os).heap[g]? = some (.cells (Go.Sort.putCells id 0 (Go.Sort.flatK encS 2 d) cur) e (0, 0)) := by
 have hg := blk_lt h
 show ((Go.Sort.ahead w m).heap.modify g _ ++ os)[g]? = _
 rw [Array.getElem?_append_left (by simpa [Go.Sort.ahead] using hg), Array.getElem?_modify, if_pos rfl]
 show (w.heap[g]?).map _ = _
 rw [h]
 rfl
theorem sorted_far {w : World} {g m k : Nat} (hk : k < w.heap.size) (hne : g ≠ k) (d : Array Sp) (os : Array Obj) : (Go.Proofs.sortWorldK encS 2 w g 0 m d os).heap[k]? = w.heap[k]? := by
 show ((Go.Sort.ahead w m).heap.modify g _ ++ os)[k]? = _
 rw [Array.getElem?_append_left (by simpa [Go.Sort.ahead] using hk), Array.getElem?_modify, if_neg hne]
 rfl
theorem sorted_size {w : World} {g m : Nat} (d : Array Sp) (os : Array Obj) : w.heap.size ≤ (Go.Proofs.sortWorldK encS 2 w g 0 m d os).heap.size := by
 show _ ≤ ((Go.Sort.ahead w m).heap.modify g _ ++ os).size
 simp [Go.Sort.ahead]
theorem put_take (F cur : Array Value) (h : F.size ≤ cur.size) : (Go.Sort.putCells id 0 F cur).toList.take F.size = F.toList := by
 apply List.ext_getElem?
 intro t
 rw [List.getElem?_take]
 by_cases ht : t < F.size
 · rw [if_pos ht]
   unfold Go.Sort.putCells
   have h2 : t < cur.size := by omega
   simp [ht, h2]
 · rw [if_neg ht, List.getElem?_eq_none]
   simp
   omega
theorem sort_any (A : Option Addr) (xs : List Sp) (c base : Nat) (w : World) (hR : Kd.R k105 105 w base (fun _ => True) (.slice A xs.length c) xs) (hl : xs.length < 1000000000000) :
 Calls Tryd.prog 74 #[.slice A xs.length c, .func (.func 75) #[] #[]] w fun e w' => e = .returned (.tuple #[]) ∧ ∃ ys, ys.length = xs.length ∧ (∀ x, x ∈ ys ↔ x ∈ xs) ∧ (∀ i j (hi : i < j) (hj : j < ys.length), (ys[i]'(by omega)).1 ≤ ys[j].1) ∧ Kd.R k105 105 w' base (fun _ => True) (.slice A xs.length c) ys ∧ Below base w w' := by
 by_cases h0 : xs = []
 · subst h0
   have hcon := Go.Proofs.AnyF.slices_SortFunc_none Go.Proofs.Tryd.sortSpan A c (.func (.func 75) #[] #[]) w
   change Calls Tryd.prog 74 _ _ _ at hcon
   refine hcon.mono ?_
   rintro e w' ⟨rfl, rfl⟩
   exact ⟨rfl, [], rfl, fun x => Iff.rfl, fun i j hi hj => absurd hj (by simp), hR, Below.refl _ _⟩
 have hn : 0 < xs.length := List.length_pos_iff.2 h0
 obtain ⟨_, inner, ho, hr⟩ := hR
 rcases ho.2 with ⟨_, h1⟩ | ⟨g, cap, cur, hv, hbg, hg, hnc, hcm, hcs, htake⟩
 · omega
 injection hv with hA _ hc
 subst hA hc
 have htake2 : cur.toList.take (xs.length * 2) = inner := htake
 have hcs2 : cur.size = c * 2 := hcs
 have hMo : ∀ x cs, k105.M w base (fun k => True ∧ some k ≠ (Value.slice (some ⟨g, 0, none⟩) xs.length c).ownBlock) x cs → cs = encS x := fun x cs h => k105_openM h
 have hfl : ∀ t, t < xs.length * 2 → cur[t]? = some ((encS (xs.toArray[t / 2]!))[t % 2]!) := fun t ht => by
  have h2 := flat_inner hMo hr t ht
  rw [← htake2, List.getElem?_take, if_pos ht] at h2
  simpa using h2
 have hH : Go.Sort.HoldsK encS 2 w g 0 xs.toArray := fun t ht => by
  have ht' : t < xs.length * 2 := by simpa using ht
  rw [Nat.zero_add]
  refine ⟨?_, blk_frozen hg t⟩
  rw [blk_cell hg t, hfl t ht', Go.Sort.get_flatK encS 2 _ t (by simpa using ht')]
  rfl
 have eg : ∀ args w, (callFunc 75 args).run Tryd.prog w = .ok (.enter 75 args) w := enters_of Tryd.func75 (by kernel_rfl) rfl
 have hcon := Go.Proofs.AnyQ.slices_SortFunc Go.Proofs.Tryd.sortSpan 2 Tryd.isAgg105 Tryd.sizeOf105 encS (fun _ => rfl) (fun x v hv => by simp [encS] at hv; rcases hv with rfl | rfl <;> rfl) cmpS swoS 75 #[] g 0 c xs.toArray w eg (cmp_lays g 0 _ w) hH (blk_lt hg) (by simp; omega)
 change Calls Tryd.prog 74 _ _ _ at hcon
 simp only [List.size_toArray] at hcon
 refine hcon.mono ?_
 rintro e w' ⟨rfl, d', m, os, hp, hs, rfl⟩
 obtain ⟨hsz, _, hperm⟩ := hp
 have hsz' : d'.size = xs.length := by simpa using hsz
 have hex : ∀ x, x ∈ d'.toList ↔ x ∈ xs := fun x => by
  have h3 := hperm.mem_iff (a := x)
  have e1 : d'.extract 0 xs.length = d' := by rw [← hsz']; exact Array.extract_size
  have e2 : xs.toArray.extract 0 xs.length = xs.toArray := by simp
  rw [e1, e2] at h3
  simpa using h3
 have hF : (Go.Sort.flatK encS 2 d').size = xs.length * 2 := by rw [Go.Sort.size_flatK, hsz']
 refine ⟨rfl, d'.toList, by simpa using hsz', hex, fun i j hi hj => ?_, ?_, ?_⟩
 · have hj' : j < d'.size := by simpa using hj
   have h4 := hs i j (Nat.zero_le _) hi (by omega)
   rw [ltS] at h4
   rw [getElem!_pos d' i (by omega), getElem!_pos d' j hj'] at h4
   have h5 := of_decide_eq_false h4
   simp only [Array.getElem_toList]
   show d'[i].f0 ≤ d'[j].f0
   omega
 · refine ⟨fun _ _ => trivial, (Go.Sort.flatK encS 2 d').toList, ⟨by rw [show k105.sz = 2 from rfl]; simp, .inr ⟨g, c, _, by rw [show d'.toList.length = xs.length by simpa using hsz'], hbg, sorted_blk hg d' os, by simpa [hsz'] using hnc, hcm, by rw [show k105.sz = 2 from rfl]; simp [Go.Sort.putCells, hcs2], ?_⟩⟩, reps_flat (fun x => k105_mkM _ _ _ x) d'⟩
   have h6 := put_take (Go.Sort.flatK encS 2 d') cur (by rw [hF, hcs2]; omega)
   rw [hF] at h6
   show List.take (d'.toList.length * 2) _ = _
   rw [show d'.toList.length = xs.length by simpa using hsz']
   exact h6
 · exact ⟨rfl, rfl, rfl, sorted_size d' os, fun k hk => sorted_far (by have := blk_lt hg; omega) (by omega) d' os⟩
end Go.Proofs.YthdfmbmbjpmlaaaDoor.Rn
end
