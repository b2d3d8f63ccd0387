/- gobolaw5.told: the walk. -/
import Derived.Test.YtmmdnjooddhhoaaRnTa
set_option linter.unusedVariables false
set_option linter.unusedSimpArgs false
namespace Go.Proofs.Ytmmdnjooddhhoaa.Rn
open Go Go.RowKit Go.Proofs.YtmmdnjooddhhoaaW.PrintWords Go.Proofs.YtmmdnjooddhhoaaW.PrintLast Go.Proofs.YtmmdnjooddhhoaaW.PrintMore
theorem lit1_C {W : World} {g : Nat} {a b : Int} {t : TypeId} (h : W.heap[g]? = some (.cells #[.int .i32 a, .int .i32 b] t (0, 0))) : kRg.C W (some ⟨g, 0, none⟩) 1 [⟨a, b⟩] := by
  refine ⟨rfl, by decide, fun _ => ⟨_, rfl, fun j p hp => ?_⟩⟩
  have hj : j = 0 := by
    have := (List.getElem?_eq_some_iff.1 hp).1
    simpa using this
  subst hj
  obtain rfl : (⟨a, b⟩ : Rg) = p := by simpa using hp
  refine ⟨[.int .i32 a, .int .i32 b], rfl, k35_mk W ⟨a, b⟩, fun i u hu => ?_⟩
  have hi : i < 2 := by
    have := (List.getElem?_eq_some_iff.1 hu).1
    simpa using this
  rw [add_at, blk_cell h]
  rcases (by omega : i = 0 ∨ i = 1) with rfl | rfl
  · exact hu
  · exact hu
theorem lit3_C {W : World} {g : Nat} {a b c d e f : Int} {t : TypeId} (h : W.heap[g]? = some (.cells #[.int .i32 a, .int .i32 b, .int .i32 c, .int .i32 d, .int .i32 e, .int .i32 f] t (0, 0))) : kRg.C W (some ⟨g, 0, none⟩) 3 [⟨a, b⟩, ⟨c, d⟩, ⟨e, f⟩] := by
  refine ⟨rfl, by decide, fun _ => ⟨_, rfl, fun j p hp => ?_⟩⟩
  have hj : j < 3 := by
    have := (List.getElem?_eq_some_iff.1 hp).1
    simpa using this
  refine ⟨[.int .i32 p.f0, .int .i32 p.f1], rfl, k35_mk W p, fun i u hu => ?_⟩
  have hi : i < 2 := by
    have := (List.getElem?_eq_some_iff.1 hu).1
    simpa using this
  rw [add_at, blk_cell h]
  rcases (by omega : j = 0 ∨ j = 1 ∨ j = 2) with rfl | rfl | rfl
  all_goals
    simp at hp
    subst hp
    rcases (by omega : i = 0 ∨ i = 1) with rfl | rfl
    · exact hu
    · exact hu
theorem pair_C {W : World} {g ga gb : Nat} {l m : List Rg} {ca cb : Nat} {Aa Ab : Option Addr} {t : TypeId} (h : W.heap[g]? = some (.cells #[.slice Aa l.length ca, .slice Ab m.length cb] t (0, 0))) (h1 : kRg.C W Aa l.length l) (h2 : kRg.C W Ab m.length m) (hc1 : l.length ≤ ca) (hc2 : m.length ≤ cb) :
    (Kd.slice tRg kRg).C W (some ⟨g, 0, none⟩) 2 [l, m] := by
  refine ⟨rfl, by decide, fun _ => ⟨_, rfl, fun j p hp => ?_⟩⟩
  have hj : j < 2 := by
    have := (List.getElem?_eq_some_iff.1 hp).1
    simpa using this
  rcases (by omega : j = 0 ∨ j = 1) with rfl | rfl
  · obtain rfl : l = p := by simpa using hp
    refine ⟨[.slice Aa l.length ca], rfl, ⟨Aa, ca, rfl, hc1, h1⟩, fun i u hu => ?_⟩
    have hi : i = 0 := by
      have := (List.getElem?_eq_some_iff.1 hu).1
      simpa using this
    subst hi
    rw [add_at, blk_cell h]
    exact hu
  · obtain rfl : m = p := by simpa using hp
    refine ⟨[.slice Ab m.length cb], rfl, ⟨Ab, cb, rfl, hc2, h2⟩, fun i u hu => ?_⟩
    have hi : i = 0 := by
      have := (List.getElem?_eq_some_iff.1 hu).1
      simpa using this
    subst hi
    rw [add_at, blk_cell h]
    exact hu
/-- a row of the call's own: its address, and that it stays -/
theorem own_stays {W : World} {base : Nat} {ok : Nat → Prop} {v : Value} {l : List Rg} (h : Kd.R kRg tRg W base ok v l) : ∃ A c, v = .slice A l.length c ∧ l.length ≤ c ∧ ∀ W', Below W.heap.size W W' → kRg.C W' A l.length l := by
  obtain ⟨A, c, rfl, h1, h2⟩ := Kd.R_reads h
  exact ⟨A, c, rfl, h1, fun W' hb => Kd.C_below h2 hb⟩
def gobolaw5_told.f : Option Bool := some true
set_option maxHeartbeats 4000000 in
set_option maxRecDepth 100000 in
theorem gobolaw5_told.calls (r : Bool) (w : World) (h : gobolaw5_told.f = some r) :
    Calls Try.prog 10 #[] w fun e w' => e = .returned (.bool r) ∧ Below w.heap.size w w' := by
  obtain rfl := Option.some.inj h
  clear h
  go_enter Try.func10, Try.ntmps10
  go_wp2_with fail
  obtain ⟨w1, hw1⟩ : ∃ w1, (w.alloc (Obj.cells #[.int .i32 97, .int .i32 99] 35)).alloc (Obj.cells #[.int .i32 98, .int .i32 100] 35) = w1 := ⟨_, rfl⟩
  rw [hw1]
  obtain ⟨gb, hgb⟩ : ∃ gb, w.heap.size + 1 = gb := ⟨_, rfl⟩
  rw [hgb]
  obtain ⟨ga, hga⟩ : ∃ ga, w.heap.size = ga := ⟨_, rfl⟩
  rw [hga]
  have HA1 : Aside0 (w1.heap[ga]? = some (.cells #[.int .i32 97, .int .i32 99] 35 (0, 0))) := ⟨by rw [← hw1, ← hga]; exact ((below1 _ _).block _ (by simp)).trans (blk_new w _)⟩
  have HB1 : Aside0 (w1.heap[gb]? = some (.cells #[.int .i32 98, .int .i32 100] 35 (0, 0))) := ⟨by
    have h := blk_new (w.alloc (Obj.cells #[.int .i32 97, .int .i32 99] 35)) (Obj.cells #[.int .i32 98, .int .i32 100] 35)
    rw [hw1] at h
    rw [← hgb]
    simpa using h⟩
  have HW1 : Aside0 (Below w.heap.size w w1) := ⟨hw1 ▸ below_alloc (below1 w _) _⟩
  have HCA : Aside0 (∀ W, Below w1.heap.size w1 W → kRg.C W (some ⟨ga, 0, none⟩) la.length la) := ⟨fun W hb => Kd.C_below (lit1_C HA1.out) hb⟩
  have HCB : Aside0 (∀ W, Below w1.heap.size w1 W → kRg.C W (some ⟨gb, 0, none⟩) lb.length lb) := ⟨fun W hb => Kd.C_below (lit1_C HB1.out) hb⟩
  clear hw1 hgb HA1 HB1
  refine (runes_Or.calls (some ⟨ga, 0, none⟩) 1 la (some ⟨gb, 0, none⟩) 1 lb _ w1 (HCA.out _ (Below.refl _ _)) (by decide) (HCB.out _ (Below.refl _ _)) (by decide) told_or).mono ?_
  rintro e w2 ⟨vo, rfl, hRo, hbo⟩
  obtain ⟨Ao, co, rfl, hlo, hCo⟩ := own_stays hRo
  have HO2 := Aside0.mk hCo
  have HLO := Aside0.mk hlo
  have HW2 := Aside0.mk hbo
  clear hRo hbo hCo hlo
  go_wp2_with fail
  refine (runes_And.calls (some ⟨ga, 0, none⟩) 1 la (some ⟨gb, 0, none⟩) 1 lb _ w2 (HCA.out _ HW2.out) (by decide) (HCB.out _ HW2.out) (by decide) told_and).mono ?_
  rintro e w3 ⟨vn, rfl, hRn, hbn⟩
  obtain ⟨An, cn, rfl, hln, hCn⟩ := own_stays hRn
  have HN3 := Aside0.mk hCn
  have HLN := Aside0.mk hln
  have HW3 := Aside0.mk hbn
  clear hRn hbn hCn hln
  go_wp2_with fail
  obtain ⟨gp, hgp⟩ : ∃ gp, w3.heap.size = gp := ⟨_, rfl⟩
  rw [hgp]
  obtain ⟨w4, hw4⟩ : ∃ w4, w3.alloc (Obj.cells #[.slice (some ⟨ga, 0, none⟩) 1 1, .slice (some ⟨gb, 0, none⟩) 1 1] 22) = w4 := ⟨_, rfl⟩
  rw [hw4]
  have HP4 : Aside0 (w4.heap[gp]? = some (.cells #[.slice (some ⟨ga, 0, none⟩) 1 1, .slice (some ⟨gb, 0, none⟩) 1 1] 22 (0, 0))) := ⟨by rw [← hw4, ← hgp]; exact blk_new _ _⟩
  have HW4 : Aside0 (Below w3.heap.size w3 w4) := ⟨hw4 ▸ below1 w3 _⟩
  have HV4 : Aside0 (Below w1.heap.size w1 w4) := ⟨join_below (join_below HW2.out HW3.out) HW4.out⟩
  clear hw4 hgp
  refine (runes_Cuts.calls (some ⟨gp, 0, none⟩) 2 [la, lb] _ w4 (pair_C (ga := ga) (gb := gb) (l := la) (m := lb) HP4.out (HCA.out _ HV4.out) (HCB.out _ HV4.out) (by decide) (by decide)) (by decide) told_cuts).mono ?_
  rintro e w5 ⟨vc, rfl, hRc, hbc⟩
  obtain ⟨Ac, cc, rfl, hlc, hCc⟩ := own_stays hRc
  have HC5 := Aside0.mk hCc
  have HLC := Aside0.mk hlc
  have HW5 := Aside0.mk hbc
  clear hRc hbc hCc hlc HP4
  go_wp2_with fail
  obtain ⟨gx, hgx⟩ : ∃ gx, w5.heap.size = gx := ⟨_, rfl⟩
  rw [hgx]
  obtain ⟨w6, hw6⟩ : ∃ w6, w5.alloc (Obj.cells #[.int .i32 57344, .int .i32 57345, .int .i32 55295, .int .i32 55295, .int .i32 5, .int .i32 4] 35) = w6 := ⟨_, rfl⟩
  rw [hw6]
  have HX6 : Aside0 (w6.heap[gx]? = some (.cells #[.int .i32 57344, .int .i32 57345, .int .i32 55295, .int .i32 55295, .int .i32 5, .int .i32 4] 35 (0, 0))) := ⟨by rw [← hw6, ← hgx]; exact blk_new _ _⟩
  have HW6 : Aside0 (Below w5.heap.size w5 w6) := ⟨hw6 ▸ below1 w5 _⟩
  clear hw6 hgx
  refine (runes_Norm.calls 4 (some ⟨gx, 0, none⟩) 3 lx _ w6 (lit3_C HX6.out) (by decide) told_norm).mono ?_
  rintro e w7 ⟨vy, rfl, hRy, hby⟩
  obtain ⟨Ay, cy, rfl, hly, hCy⟩ := own_stays hRy
  have HY7 := Aside0.mk hCy
  have HLY := Aside0.mk hly
  have HW7 := Aside0.mk hby
  clear hRy hby hCy hly HX6
  have HV7 : Aside0 (Below w1.heap.size w1 w7) := ⟨join_below (join_below (join_below HV4.out HW5.out) HW6.out) HW7.out⟩
  have HO7 : Aside0 (kRg.C w7 Ao 1 [⟨97, 100⟩]) := ⟨HO2.out _ (join_below (join_below (join_below (join_below HW3.out HW4.out) HW5.out) HW6.out) HW7.out)⟩
  have HN7 : Aside0 (kRg.C w7 An 1 [⟨98, 99⟩]) := ⟨HN3.out _ (join_below (join_below (join_below HW4.out HW5.out) HW6.out) HW7.out)⟩
  have HC7 : Aside0 (kRg.C w7 Ac 3 [⟨97, 97⟩, ⟨98, 99⟩, ⟨100, 100⟩]) := ⟨HC5.out _ (join_below HW6.out HW7.out)⟩
  obtain ⟨go, oo, eo, _, ho⟩ := rg_cells (xs := [⟨97, 100⟩]) HO7.out (by decide)
  obtain ⟨gn, on, en, _, hn⟩ := rg_cells (xs := [⟨98, 99⟩]) HN7.out (by decide)
  obtain ⟨gc, oc, ec, _, hc⟩ := rg_cells (xs := [⟨97, 97⟩, ⟨98, 99⟩, ⟨100, 100⟩]) HC7.out (by decide)
  obtain ⟨gy, oy, ey, _, hy⟩ := rg_cells (xs := ly) (HY7.out _ (Below.refl _ _)) (by decide)
  subst eo en ec ey
  obtain ⟨o0, o1⟩ := ho 0 _ rfl
  obtain ⟨n0, n1⟩ := hn 0 _ rfl
  obtain ⟨c0, c1⟩ := hc 1 _ rfl
  obtain ⟨y0, y1⟩ := hy 0 _ rfl
  dsimp only at o0 o1 n0 n1 c0 c1 y0 y1
  simp only [Nat.zero_mul, Nat.one_mul, Nat.add_zero] at o0 o1 n0 n1 c0 c1 y0 y1
  clear ho hn hc hy
  rw [show ly.length = 1 from rfl]
  go_wp2_with fail
  -- REGION
  have qo0 : ∀ p : Later w7, p.wx.cell? ⟨go, oo, none⟩ = some (.int .i32 97) := fun p => cell_after p.below o0
  have qo1 : ∀ p : Later w7, p.wx.cell? ⟨go, oo + 1, none⟩ = some (.int .i32 100) := fun p => cell_after p.below o1
  have qn0 : ∀ p : Later w7, p.wx.cell? ⟨gn, on, none⟩ = some (.int .i32 98) := fun p => cell_after p.below n0
  have qn1 : ∀ p : Later w7, p.wx.cell? ⟨gn, on + 1, none⟩ = some (.int .i32 99) := fun p => cell_after p.below n1
  have qc0 : ∀ p : Later w7, p.wx.cell? ⟨gc, oc + 2, none⟩ = some (.int .i32 98) := fun p => cell_after p.below c0
  have qc1 : ∀ p : Later w7, p.wx.cell? ⟨gc, oc + 2 + 1, none⟩ = some (.int .i32 99) := fun p => cell_after p.below c1
  have qy0 : ∀ p : Later w7, p.wx.cell? ⟨gy, oy, none⟩ = some (.int .i32 55295) := fun p => cell_after p.below y0
  have qy1 : ∀ p : Later w7, p.wx.cell? ⟨gy, oy + 1, none⟩ = some (.int .i32 57345) := fun p => cell_after p.below y1
  have HLAT : Aside0 (Below w7.heap.size w7 w7.drew) := ⟨below_drew1 (Below.refl _ _)⟩
  clear o0 o1 n0 n1 c0 c1 y0 y1 HO2 HN3 HC5 HO7 HN7 HC7
  refine wp_region_held (S := fun w' => ∃ p : Later w7, w' = p.wx) (by kernel_rfl) ?_
  change wpAnyH _ _ _ _ _ _ _ _ (World.drew _)
  ((refine takeQ (i := 0) (by rfl) (by kernel_rfl) (by kernel_rfl) (by kernel_rfl) ?_ ?_ ?_); (focus exact fun _ _ _ _ h => h); (focus exact ⟨⟨_, HLAT.out⟩, rfl⟩); intro K hK; go_simp; (with_reducible refine hK _ ?_); clear hK K)
  ((refine takeQ (i := 1) (by rfl) (by kernel_rfl) (by kernel_rfl) (by kernel_rfl) ?_ ?_ ?_); (focus exact fun _ _ _ _ h => h); (focus exact ⟨⟨_, HLAT.out⟩, rfl⟩); intro K hK; go_simp; (with_reducible refine hK _ ?_); clear hK K)
  ((refine takeQ (i := 2) (by rfl) (by kernel_rfl) (by kernel_rfl) (by kernel_rfl) ?_ ?_ ?_); (focus exact fun _ _ _ _ h => h); (focus exact ⟨⟨_, HLAT.out⟩, rfl⟩); intro K hK; go_simp; (with_reducible refine hK _ ?_); clear hK K)
  ((refine takeQ (i := 3) (by rfl) (by kernel_rfl) (by kernel_rfl) (by kernel_rfl) ?_ ?_ ?_); (focus exact fun _ _ _ _ h => h); (focus exact ⟨⟨_, HLAT.out⟩, rfl⟩); intro K hK; go_simp; (with_reducible refine hK _ ?_); clear hK K)
  ((refine takeQ (i := 4) (by rfl) (by kernel_rfl) (by kernel_rfl) (by kernel_rfl) ?_ ?_ ?_); (focus exact fun _ _ _ _ h => h); (focus exact ⟨⟨_, HLAT.out⟩, rfl⟩); intro K hK; go_simp; (with_reducible refine hK _ ?_); clear hK K)
  ((refine takeQ (i := 5) (by rfl) (by kernel_rfl) (by kernel_rfl) (by kernel_rfl) ?_ ?_ ?_); (focus exact fun _ _ _ _ h => h); (focus exact ⟨⟨_, HLAT.out⟩, rfl⟩); intro K hK; go_simp; (with_reducible refine hK _ ?_); clear hK K)
  ((refine takeQ (i := 6) (by rfl) (by kernel_rfl) (by kernel_rfl) (by kernel_rfl) ?_ ?_ ?_); (focus exact fun _ _ _ _ h => h); (focus exact ⟨⟨_, HLAT.out⟩, rfl⟩); intro K hK; go_simp; (with_reducible refine hK _ ?_); clear hK K)
  ((refine takeQ (i := 7) (by rfl) (by kernel_rfl) (by kernel_rfl) (by kernel_rfl) ?_ ?_ ?_); (focus exact fun _ _ _ _ h => h); (focus exact ⟨⟨_, HLAT.out⟩, rfl⟩); intro K hK; go_simp; (with_reducible refine hK _ ?_); clear hK K)
  ((refine takeQ (i := 8) (by rfl) (by kernel_rfl) (by kernel_rfl) (by kernel_rfl) ?_ ?_ ?_); (focus exact fun _ _ _ _ h => h); (focus exact ⟨⟨_, HLAT.out⟩, rfl⟩); intro K hK; go_simp; (with_reducible refine hK _ ?_); clear hK K)
  ((refine takeQ (i := 9) (by rfl) (by kernel_rfl) (by kernel_rfl) (by kernel_rfl) ?_ ?_ ?_); (focus exact fun _ _ _ _ h => h); (focus exact ⟨⟨_, HLAT.out⟩, rfl⟩); intro K hK; go_simp; (with_reducible refine hK _ ?_); clear hK K)
  ((refine takeQ (i := 10) (by rfl) (by kernel_rfl) (by kernel_rfl) (by kernel_rfl) ?_ ?_ ?_); (focus exact fun _ _ _ _ h => h); (focus exact ⟨⟨_, HLAT.out⟩, rfl⟩); intro K hK; go_simp; (with_reducible refine hK _ ?_); clear hK K)
  ((refine takeQ (i := 11) (by rfl) (by kernel_rfl) (by kernel_rfl) (by kernel_rfl) ?_ ?_ ?_); (focus exact fun _ _ _ _ h => h); (focus exact ⟨⟨_, HLAT.out⟩, rfl⟩); intro K hK; go_simp; (with_reducible refine hK _ ?_); clear hK K)
  ((refine takeQ (i := 12) (by rfl) (by kernel_rfl) (by kernel_rfl) (by kernel_rfl) ?_ ?_ ?_); (focus exact fun _ _ _ _ h => h); (focus exact ⟨⟨_, HLAT.out⟩, rfl⟩); intro K hK; go_simp; (with_reducible refine hK _ ?_); clear hK K)
  ((refine takeQ (i := 13) (by rfl) (by kernel_rfl) (by kernel_rfl) (by kernel_rfl) ?_ ?_ ?_); (focus exact fun _ _ _ _ h => h); (focus exact ⟨⟨_, HLAT.out⟩, rfl⟩); intro K hK; go_simp; (with_reducible refine hK _ ?_); clear hK K)
  ((refine takeQ (i := 14) (by rfl) (by kernel_rfl) (by kernel_rfl) (by kernel_rfl) ?_ ?_ ?_); (focus exact fun _ _ _ _ h => h); (focus exact ⟨⟨_, HLAT.out⟩, rfl⟩); intro K hK; go_simp; (with_reducible refine hK _ ?_); clear hK K)
  ((refine takeQ (i := 15) (by rfl) (by kernel_rfl) (by kernel_rfl) (by kernel_rfl) ?_ ?_ ?_); (focus exact fun _ _ _ _ h => h); (focus exact ⟨⟨_, HLAT.out⟩, rfl⟩); intro K hK; go_simp; (with_reducible refine hK _ ?_); clear hK K)
  ((refine takeQ (i := 16) (by rfl) (by kernel_rfl) (by kernel_rfl) (by kernel_rfl) ?_ ?_ ?_); (focus exact fun _ _ _ _ h => h); (focus exact ⟨⟨_, HLAT.out⟩, rfl⟩); intro K hK; go_simp; (with_reducible refine hK _ ?_); clear hK K)
  ((refine takeQ (i := 17) (by rfl) (by kernel_rfl) (by kernel_rfl) (by kernel_rfl) ?_ ?_ ?_); (focus exact fun _ _ _ _ h => h); (focus exact ⟨⟨_, HLAT.out⟩, rfl⟩); intro K hK; go_simp; (with_reducible refine hK _ ?_); clear hK K)
  ((refine takeQ (i := 18) (by rfl) (by kernel_rfl) (by kernel_rfl) (by kernel_rfl) ?_ ?_ ?_); (focus exact fun _ _ _ _ h => h); (focus exact ⟨⟨_, HLAT.out⟩, rfl⟩); intro K hK; go_simp; (with_reducible refine hK _ ?_); clear hK K)
  ((refine takeQ (i := 19) (by rfl) (by kernel_rfl) (by kernel_rfl) (by kernel_rfl) ?_ ?_ ?_); (focus exact fun _ _ _ _ h => h); (focus exact ⟨⟨_, HLAT.out⟩, rfl⟩); intro K hK; go_simp; (with_reducible refine hK _ ?_); clear hK K)
  ((refine takeQ (i := 20) (by rfl) (by kernel_rfl) (by kernel_rfl) (by kernel_rfl) ?_ ?_ ?_); (focus exact fun _ _ _ _ h => h); (focus exact ⟨⟨_, HLAT.out⟩, rfl⟩); intro K hK; go_simp; (with_reducible refine hK _ ?_); clear hK K)
  ((refine takeQ (i := 21) (by rfl) (by kernel_rfl) (by kernel_rfl) (by kernel_rfl) ?_ ?_ ?_); (focus exact fun _ _ _ _ h => h); (focus exact ⟨⟨_, HLAT.out⟩, rfl⟩); intro K hK; go_simp; (with_reducible refine hK _ ?_); clear hK K)
  ((refine takeQ (i := 22) (by rfl) (by kernel_rfl) (by kernel_rfl) (by kernel_rfl) ?_ ?_ ?_); (focus exact fun _ _ _ _ h => h); (focus exact ⟨⟨_, HLAT.out⟩, rfl⟩); intro K hK; go_simp; (with_reducible refine hK _ ?_); clear hK K)
  ((refine takeQ (i := 23) (by rfl) (by kernel_rfl) (by kernel_rfl) (by kernel_rfl) ?_ ?_ ?_); (focus exact fun _ _ _ _ h => h); (focus exact ⟨⟨_, HLAT.out⟩, rfl⟩); intro K hK; go_simp; (with_reducible refine hK _ ?_); clear hK K)
  ((refine takeQ (i := 24) (by rfl) (by kernel_rfl) (by kernel_rfl) (by kernel_rfl) ?_ ?_ ?_); (focus exact fun _ _ _ _ h => h); (focus exact ⟨⟨_, HLAT.out⟩, rfl⟩); intro K hK; go_simp; (with_reducible refine hK _ ?_); clear hK K)
  ((refine takeQ (i := 25) (by rfl) (by kernel_rfl) (by kernel_rfl) (by kernel_rfl) ?_ ?_ ?_); (focus exact fun _ _ _ _ h => h); (focus exact ⟨⟨_, HLAT.out⟩, rfl⟩); intro K hK; go_simp; (with_reducible refine hK _ ?_); clear hK K)
  ((refine takeQ (i := 26) (by rfl) (by kernel_rfl) (by kernel_rfl) (by kernel_rfl) ?_ ?_ ?_); (focus exact fun _ _ _ _ h => h); (focus exact ⟨⟨_, HLAT.out⟩, rfl⟩); intro K hK; go_simp; (with_reducible refine hK _ ?_); clear hK K)
  ((refine takeQ (i := 27) (by rfl) (by kernel_rfl) (by kernel_rfl) (by kernel_rfl) ?_ ?_ ?_); (focus exact fun _ _ _ _ h => h); (focus exact ⟨⟨_, HLAT.out⟩, rfl⟩); intro K hK; go_simp; (with_reducible refine hK _ ?_); clear hK K)
  ((refine takeQ (i := 28) (by rfl) (by kernel_rfl) (by kernel_rfl) (by kernel_rfl) ?_ ?_ ?_); (focus exact fun _ _ _ _ h => h); (focus exact ⟨⟨_, HLAT.out⟩, rfl⟩); intro K hK; go_simp; (with_reducible refine hK _ ?_); clear hK K)
  ((refine takeQ (i := 29) (by rfl) (by kernel_rfl) (by kernel_rfl) (by kernel_rfl) ?_ ?_ ?_); (focus exact fun _ _ _ _ h => h); (focus exact ⟨⟨_, HLAT.out⟩, rfl⟩); intro K hK; go_simp; (with_reducible refine hK _ ?_); clear hK K)
  ((refine takeQ (i := 30) (by rfl) (by kernel_rfl) (by kernel_rfl) (by kernel_rfl) ?_ ?_ ?_); (focus exact fun _ _ _ _ h => h); (focus exact ⟨⟨_, HLAT.out⟩, rfl⟩); intro K hK; go_simp; (with_reducible refine hK _ ?_); clear hK K)
  ((refine takeQ (i := 31) (by rfl) (by kernel_rfl) (by kernel_rfl) (by kernel_rfl) ?_ ?_ ?_); (focus exact fun _ _ _ _ h => h); (focus exact ⟨⟨_, HLAT.out⟩, rfl⟩); intro K hK; go_simp; (with_reducible refine hK _ ?_); clear hK K)
  ((refine takeQ (i := 32) (by rfl) (by kernel_rfl) (by kernel_rfl) (by kernel_rfl) ?_ ?_ ?_); (focus exact fun _ _ _ _ h => h); (focus exact ⟨⟨_, HLAT.out⟩, rfl⟩); intro K hK; go_simp; (with_reducible refine hK _ ?_); clear hK K)
  ((refine takeQ (i := 33) (by rfl) (by kernel_rfl) (by kernel_rfl) (by kernel_rfl) ?_ ?_ ?_); (focus exact fun _ _ _ _ h => h); (focus exact ⟨⟨_, HLAT.out⟩, rfl⟩); intro K hK; go_simp; (with_reducible refine hK _ ?_); clear hK K)
  ((refine takeQ (i := 34) (by rfl) (by kernel_rfl) (by kernel_rfl) (by kernel_rfl) ?_ ?_ ?_); (focus exact fun _ _ _ _ h => h); (focus exact ⟨⟨_, HLAT.out⟩, rfl⟩); intro K hK; go_simp; (with_reducible refine hK _ ?_); clear hK K)
  ((refine takeQ (i := 35) (by rfl) (by kernel_rfl) (by kernel_rfl) (by kernel_rfl) ?_ ?_ ?_); (focus exact fun _ _ _ _ h => h); (focus exact ⟨⟨_, HLAT.out⟩, rfl⟩); intro K hK; go_simp; (with_reducible refine hK _ ?_); clear hK K)
  ((refine takeQ (i := 36) (by rfl) (by kernel_rfl) (by kernel_rfl) (by kernel_rfl) ?_ ?_ ?_); (focus exact fun _ _ _ _ h => h); (focus exact ⟨⟨_, HLAT.out⟩, rfl⟩); intro K hK; go_simp; (with_reducible refine hK _ ?_); clear hK K)
  ((refine takeQ (i := 37) (by rfl) (by kernel_rfl) (by kernel_rfl) (by kernel_rfl) ?_ ?_ ?_); (focus exact fun _ _ _ _ h => h); (focus exact ⟨⟨_, HLAT.out⟩, rfl⟩); intro K hK; go_simp; (with_reducible refine hK _ ?_); clear hK K)
  ((refine takeQ (i := 38) (by rfl) (by kernel_rfl) (by kernel_rfl) (by kernel_rfl) ?_ ?_ ?_); (focus exact fun _ _ _ _ h => h); (focus exact ⟨⟨_, HLAT.out⟩, rfl⟩); intro K hK; go_simp; (with_reducible refine hK _ ?_); clear hK K)
  ((refine takeQ (i := 39) (by rfl) (by kernel_rfl) (by kernel_rfl) (by kernel_rfl) ?_ ?_ ?_); (focus exact fun _ _ _ _ h => h); (focus exact ⟨⟨_, HLAT.out⟩, rfl⟩); intro K hK; go_simp; (with_reducible refine hK _ ?_); clear hK K)
  ((refine takeQ (i := 40) (by rfl) (by kernel_rfl) (by kernel_rfl) (by kernel_rfl) ?_ ?_ ?_); (focus exact fun _ _ _ _ h => h); (focus exact ⟨⟨_, HLAT.out⟩, rfl⟩); intro K hK; go_simp; (with_reducible refine hK _ ?_); clear hK K)
  ((refine takeQ (i := 41) (by rfl) (by kernel_rfl) (by kernel_rfl) (by kernel_rfl) ?_ ?_ ?_); (focus exact fun _ _ _ _ h => h); (focus exact ⟨⟨_, HLAT.out⟩, rfl⟩); intro K hK; go_simp; (with_reducible refine hK _ ?_); clear hK K)
  ((refine takeQ (i := 42) (by rfl) (by kernel_rfl) (by kernel_rfl) (by kernel_rfl) ?_ ?_ ?_); (focus exact fun _ _ _ _ h => h); (focus exact ⟨⟨_, HLAT.out⟩, rfl⟩); intro K hK; go_simp; (with_reducible refine hK _ ?_); clear hK K)
  ((refine takeQ (i := 43) (by rfl) (by kernel_rfl) (by kernel_rfl) (by kernel_rfl) ?_ ?_ ?_); (focus exact fun _ _ _ _ h => h); (focus exact ⟨⟨_, HLAT.out⟩, rfl⟩); intro K hK; go_simp; (with_reducible refine hK _ ?_); clear hK K)
  ((refine takeQ (i := 44) (by rfl) (by kernel_rfl) (by kernel_rfl) (by kernel_rfl) ?_ ?_ ?_); (focus exact fun _ _ _ _ h => h); (focus exact ⟨⟨_, HLAT.out⟩, rfl⟩); intro K hK; go_simp; (with_reducible refine hK _ ?_); clear hK K)
  ((refine takeQ (i := 45) (by rfl) (by kernel_rfl) (by kernel_rfl) (by kernel_rfl) ?_ ?_ ?_); (focus exact fun _ _ _ _ h => h); (focus exact ⟨⟨_, HLAT.out⟩, rfl⟩); intro K hK; go_simp; (with_reducible refine hK _ ?_); clear hK K)
  ((refine takeQ (i := 46) (by rfl) (by kernel_rfl) (by kernel_rfl) (by kernel_rfl) ?_ ?_ ?_); (focus exact fun _ _ _ _ h => h); (focus exact ⟨⟨_, HLAT.out⟩, rfl⟩); intro K hK; go_simp; (with_reducible refine hK _ ?_); clear hK K)
  ((refine takeQ (i := 47) (by rfl) (by kernel_rfl) (by kernel_rfl) (by kernel_rfl) ?_ ?_ ?_); (focus exact fun _ _ _ _ h => h); (focus exact ⟨⟨_, HLAT.out⟩, rfl⟩); intro K hK; go_simp; (with_reducible refine hK _ ?_); clear hK K)
  ((refine takeQ (i := 48) (by rfl) (by kernel_rfl) (by kernel_rfl) (by kernel_rfl) ?_ ?_ ?_); (focus exact fun _ _ _ _ h => h); (focus exact ⟨⟨_, HLAT.out⟩, rfl⟩); intro K hK; go_simp; (with_reducible refine hK _ ?_); clear hK K)
  ((refine takeQ (i := 49) (by rfl) (by kernel_rfl) (by kernel_rfl) (by kernel_rfl) ?_ ?_ ?_); (focus exact fun _ _ _ _ h => h); (focus exact ⟨⟨_, HLAT.out⟩, rfl⟩); intro K hK; go_simp; (with_reducible refine hK _ ?_); clear hK K)
  refine hall1 (i := 50) (by kernel_rfl) (by rfl) (fun K hK => ?_)
  go_simp
  refine (runes_Count.calls 4 _ cy ly _ w7.drew (HY7.out _ HLAT.out) HLY.out told_count).mono ?_
  rintro e u1 ⟨rfl, hb⟩
  have HU1 : Aside0 (Below w7.heap.size w7 u1) := ⟨join_below HLAT.out hb⟩
  clear hb
  refine hK _ _ ⟨⟨_, HU1.out⟩, rfl⟩ ?_
  clear hK K
  ((refine takeQ (i := 51) (by rfl) (by kernel_rfl) (by kernel_rfl) (by kernel_rfl) ?_ ?_ ?_); (focus exact fun _ _ _ _ h => h); (focus exact ⟨⟨_, HU1.out⟩, rfl⟩); intro K hK; go_simp; (with_reducible refine hK _ ?_); clear hK K)
  ((refine takeQ (i := 52) (by rfl) (by kernel_rfl) (by kernel_rfl) (by kernel_rfl) ?_ ?_ ?_); (focus exact fun _ _ _ _ h => h); (focus exact ⟨⟨_, HU1.out⟩, rfl⟩); intro K hK; go_simp; (with_reducible refine hK _ ?_); clear hK K)
  ((refine takeQ (i := 53) (by rfl) (by kernel_rfl) (by kernel_rfl) (by kernel_rfl) ?_ ?_ ?_); (focus exact fun _ _ _ _ h => h); (focus exact ⟨⟨_, HU1.out⟩, rfl⟩); intro K hK; go_simp; (with_reducible refine hK _ ?_); clear hK K)
  ((refine takeQ (i := 54) (by rfl) (by kernel_rfl) (by kernel_rfl) (by kernel_rfl) ?_ ?_ ?_); (focus exact fun _ _ _ _ h => h); (focus exact ⟨⟨_, HU1.out⟩, rfl⟩); intro K hK; go_simp; (with_reducible refine hK _ ?_); clear hK K)
  refine hall1 (i := 55) (by kernel_rfl) (by rfl) (fun K hK => ?_)
  go_simp
  refine (runes_Has.calls (some ⟨ga, 0, none⟩) 1 la 98 _ u1 (HCA.out _ (join_below HV7.out HU1.out)) (by decide) told_has1).mono ?_
  rintro e u2 ⟨rfl, hb⟩
  have HU2 : Aside0 (Below w7.heap.size w7 u2) := ⟨join_below HU1.out hb⟩
  clear hb
  refine hK _ _ ⟨⟨_, HU2.out⟩, rfl⟩ ?_
  clear hK K
  ((refine takeQ (i := 56) (by rfl) (by kernel_rfl) (by kernel_rfl) (by kernel_rfl) ?_ ?_ ?_); (focus exact fun _ _ _ _ h => h); (focus exact ⟨⟨_, HU2.out⟩, rfl⟩); intro K hK; go_simp; (with_reducible refine hK _ ?_); clear hK K)
  ((refine takeQ (i := 57) (by rfl) (by kernel_rfl) (by kernel_rfl) (by kernel_rfl) ?_ ?_ ?_); (focus exact fun _ _ _ _ h => h); (focus exact ⟨⟨_, HU2.out⟩, rfl⟩); intro K hK; go_simp; (with_reducible refine hK _ ?_); clear hK K)
  ((refine takeQ (i := 58) (by rfl) (by kernel_rfl) (by kernel_rfl) (by kernel_rfl) ?_ ?_ ?_); (focus exact fun _ _ _ _ h => h); (focus exact ⟨⟨_, HU2.out⟩, rfl⟩); intro K hK; go_simp; (with_reducible refine hK _ ?_); clear hK K)
  refine hall1 (i := 59) (by kernel_rfl) (by rfl) (fun K hK => ?_)
  go_simp
  refine (runes_Has.calls (some ⟨ga, 0, none⟩) 1 la 100 _ u2 (HCA.out _ (join_below HV7.out HU2.out)) (by decide) told_has2).mono ?_
  rintro e u3 ⟨rfl, hb⟩
  have HU3 : Aside0 (Below w7.heap.size w7 u3) := ⟨join_below HU2.out hb⟩
  clear hb
  refine hK _ _ ⟨⟨_, HU3.out⟩, rfl⟩ ?_
  clear hK K
  ((refine takeQ (i := 60) (by rfl) (by kernel_rfl) (by kernel_rfl) (by kernel_rfl) ?_ ?_ ?_); (focus exact fun _ _ _ _ h => h); (focus exact ⟨⟨_, HU3.out⟩, rfl⟩); intro K hK; go_simp; (with_reducible refine hK _ ?_); clear hK K)
  ((refine takeQ (i := 61) (by rfl) (by kernel_rfl) (by kernel_rfl) (by kernel_rfl) ?_ ?_ ?_); (focus exact fun _ _ _ _ h => h); (focus exact ⟨⟨_, HU3.out⟩, rfl⟩); intro K hK; go_simp; (with_reducible refine hK _ ?_); clear hK K)
  ((refine takeQ (i := 62) (by rfl) (by kernel_rfl) (by kernel_rfl) (by kernel_rfl) ?_ ?_ ?_); (focus exact fun _ _ _ _ h => h); (focus exact ⟨⟨_, HU3.out⟩, rfl⟩); intro K hK; go_simp; (with_reducible refine hK _ ?_); clear hK K)
  ((refine takeQ (i := 63) (by rfl) (by kernel_rfl) (by kernel_rfl) (by kernel_rfl) ?_ ?_ ?_); (focus exact fun _ _ _ _ h => h); (focus exact ⟨⟨_, HU3.out⟩, rfl⟩); intro K hK; go_simp; (with_reducible refine hK _ ?_); clear hK K)
  refine hall1 (i := 64) (by kernel_rfl) (by rfl) (fun K hK => ?_)
  go_simp
  refine (runes_Has.calls _ cy ly 55296 _ u3 (HY7.out _ HU3.out) HLY.out told_has3).mono ?_
  rintro e u4 ⟨rfl, hb⟩
  have HU4 : Aside0 (Below w7.heap.size w7 u4) := ⟨join_below HU3.out hb⟩
  clear hb
  refine hK _ _ ⟨⟨_, HU4.out⟩, rfl⟩ ?_
  clear hK K
  ((refine takeQ (i := 65) (by rfl) (by kernel_rfl) (by kernel_rfl) (by kernel_rfl) ?_ ?_ ?_); (focus exact fun _ _ _ _ h => h); (focus exact ⟨⟨_, HU4.out⟩, rfl⟩); intro K hK; go_simp; (with_reducible refine hK _ ?_); clear hK K)
  ((refine takeQ (i := 66) (by rfl) (by kernel_rfl) (by kernel_rfl) (by kernel_rfl) ?_ ?_ ?_); (focus exact fun _ _ _ _ h => h); (focus exact ⟨⟨_, HU4.out⟩, rfl⟩); intro K hK; go_simp; (with_reducible refine hK _ ?_); clear hK K)
  ((refine takeQ (i := 67) (by rfl) (by kernel_rfl) (by kernel_rfl) (by kernel_rfl) ?_ ?_ ?_); (focus exact fun _ _ _ _ h => h); (focus exact ⟨⟨_, HU4.out⟩, rfl⟩); intro K hK; go_simp; (with_reducible refine hK _ ?_); clear hK K)
  ((refine takeQ (i := 68) (by rfl) (by kernel_rfl) (by kernel_rfl) (by kernel_rfl) ?_ ?_ ?_); (focus exact fun _ _ _ _ h => h); (focus exact ⟨⟨_, HU4.out⟩, rfl⟩); intro K hK; go_simp; (with_reducible refine hK _ ?_); clear hK K)
  refine hall1 (i := 69) (by kernel_rfl) (by rfl) (fun K hK => ?_)
  go_simp
  refine (runes_May.calls 4 _ cy ly _ u4 (HY7.out _ HU4.out) HLY.out told_may1).mono ?_
  rintro e u5 ⟨rfl, hb⟩
  have HU5 : Aside0 (Below w7.heap.size w7 u5) := ⟨join_below HU4.out hb⟩
  clear hb
  refine hK _ _ ⟨⟨_, HU5.out⟩, rfl⟩ ?_
  clear hK K
  ((refine takeQ (i := 70) (by rfl) (by kernel_rfl) (by kernel_rfl) (by kernel_rfl) ?_ ?_ ?_); (focus exact fun _ _ _ _ h => h); (focus exact ⟨⟨_, HU5.out⟩, rfl⟩); intro K hK; go_simp; (with_reducible refine hK _ ?_); clear hK K)
  ((refine takeQ (i := 71) (by rfl) (by kernel_rfl) (by kernel_rfl) (by kernel_rfl) ?_ ?_ ?_); (focus exact fun _ _ _ _ h => h); (focus exact ⟨⟨_, HU5.out⟩, rfl⟩); intro K hK; go_simp; (with_reducible refine hK _ ?_); clear hK K)
  ((refine takeQ (i := 72) (by rfl) (by kernel_rfl) (by kernel_rfl) (by kernel_rfl) ?_ ?_ ?_); (focus exact fun _ _ _ _ h => h); (focus exact ⟨⟨_, HU5.out⟩, rfl⟩); intro K hK; go_simp; (with_reducible refine hK _ ?_); clear hK K)
  refine hall1 (i := 73) (by kernel_rfl) (by rfl) (fun K hK => ?_)
  go_simp
  obtain ⟨u6, hu⟩ : ∃ u6, u5.alloc (Obj.cells #[.int .i32 5, .int .i32 4] 35) = u6 := ⟨_, rfl⟩
  rw [hu]
  obtain ⟨gz, hgz⟩ : ∃ gz, u5.heap.size = gz := ⟨_, rfl⟩
  rw [hgz]
  have HZ : Aside0 (u6.heap[gz]? = some (.cells #[.int .i32 5, .int .i32 4] 35 (0, 0))) := ⟨by rw [← hu, ← hgz]; exact blk_new _ _⟩
  have HU6 : Aside0 (Below w7.heap.size w7 u6) := ⟨hu ▸ below_alloc HU5.out _⟩
  clear hu hgz
  refine hK _ _ ⟨⟨_, HU6.out⟩, rfl⟩ ?_
  clear hK K
  refine hall1 (i := 74) (by kernel_rfl) (by rfl) (fun K hK => ?_)
  go_simp
  refine (runes_May.calls 4 (some ⟨gz, 0, none⟩) 1 [⟨5, 4⟩] _ u6 (lit1_C HZ.out) (by decide) told_may2).mono ?_
  rintro e u7 ⟨rfl, hb⟩
  have HU7 : Aside0 (Below w7.heap.size w7 u7) := ⟨join_below HU6.out hb⟩
  clear hb
  refine hK _ _ ⟨⟨_, HU7.out⟩, rfl⟩ ?_
  clear hK K
  ((refine takeQ (i := 75) (by rfl) (by kernel_rfl) (by kernel_rfl) (by kernel_rfl) ?_ ?_ ?_); (focus exact fun _ _ _ _ h => h); (focus exact ⟨⟨_, HU7.out⟩, rfl⟩); intro K hK; go_simp; (with_reducible refine hK _ ?_); clear hK K)
  ((refine takeQ (i := 76) (by rfl) (by kernel_rfl) (by kernel_rfl) (by kernel_rfl) ?_ ?_ ?_); (focus exact fun _ _ _ _ h => h); (focus exact ⟨⟨_, HU7.out⟩, rfl⟩); intro K hK; go_simp; (with_reducible refine hK _ ?_); clear hK K)
  ((refine takeQ (i := 77) (by rfl) (by kernel_rfl) (by kernel_rfl) (by kernel_rfl) ?_ ?_ ?_); (focus exact fun _ _ _ _ h => h); (focus exact ⟨⟨_, HU7.out⟩, rfl⟩); intro K hK; go_simp; (with_reducible refine hK _ ?_); clear hK K)
  refine hall1 (i := 78) (by kernel_rfl) (by rfl) (fun K hK => ?_)
  go_simp
  refine (runes_Not.calls none 0 [] _ u7 (Kd.C_nil _ _) (by decide) told_not).mono ?_
  rintro e u8 ⟨vz, rfl, hRz, hb⟩
  obtain ⟨Az, cz, rfl, _, _⟩ := own_stays hRz
  have HU8 : Aside0 (Below w7.heap.size w7 u8) := ⟨join_below HU7.out hb⟩
  clear hb hRz
  refine hK _ _ ⟨⟨_, HU8.out⟩, rfl⟩ ?_
  clear hK K
  ((refine takeQ (i := 79) (by rfl) (by kernel_rfl) (by kernel_rfl) (by kernel_rfl) ?_ ?_ ?_); (focus exact fun _ _ _ _ h => h); (focus exact ⟨⟨_, HU8.out⟩, rfl⟩); intro K hK; go_simp; (with_reducible refine hK _ ?_); clear hK K)
  ((refine takeQ (i := 80) (by rfl) (by kernel_rfl) (by kernel_rfl) (by kernel_rfl) ?_ ?_ ?_); (focus exact fun _ _ _ _ h => h); (focus exact ⟨⟨_, HU8.out⟩, rfl⟩); intro K hK; go_simp; (with_reducible refine hK _ ?_); clear hK K)
  ((refine takeQ (i := 81) (by rfl) (by kernel_rfl) (by kernel_rfl) (by kernel_rfl) ?_ ?_ ?_); (focus exact fun _ _ _ _ h => h); (focus exact ⟨⟨_, HU8.out⟩, rfl⟩); intro K hK; go_simp; (with_reducible refine hK _ ?_); clear hK K)
  ((refine takeQ (i := 82) (by rfl) (by kernel_rfl) (by kernel_rfl) (by kernel_rfl) ?_ ?_ ?_); (focus exact fun _ _ _ _ h => h); (focus exact ⟨⟨_, HU8.out⟩, rfl⟩); intro K hK; go_simp; (with_reducible refine hK _ ?_); clear hK K)
  ((refine takeQ (i := 83) (by rfl) (by kernel_rfl) (by kernel_rfl) (by kernel_rfl) ?_ ?_ ?_); (focus exact fun _ _ _ _ h => h); (focus exact ⟨⟨_, HU8.out⟩, rfl⟩); intro K hK; go_simp; (with_reducible refine hK _ ?_); clear hK K)
  ((refine takeQ (i := 84) (by rfl) (by kernel_rfl) (by kernel_rfl) (by kernel_rfl) ?_ ?_ ?_); (focus exact fun _ _ _ _ h => h); (focus exact ⟨⟨_, HU8.out⟩, rfl⟩); intro K hK; go_simp; (with_reducible refine hK _ ?_); clear hK K)
  refine hall1 (i := 85) (by kernel_rfl) (by rfl) (fun K hK => ?_)
  go_simp
  refine (runes_Same.calls 4 (some ⟨ga, 0, none⟩) 1 la (some ⟨ga, 0, none⟩) 1 la _ u8 (HCA.out _ (join_below HV7.out HU8.out)) (by decide) (HCA.out _ (join_below HV7.out HU8.out)) (by decide) told_same).mono ?_
  rintro e u9 ⟨rfl, hb⟩
  have HU9 : Aside0 (Below w7.heap.size w7 u9) := ⟨join_below HU8.out hb.below⟩
  clear hb
  refine hK _ _ ⟨⟨_, HU9.out⟩, rfl⟩ ?_
  clear hK K
  ((refine takeQ (i := 86) (by rfl) (by kernel_rfl) (by kernel_rfl) (by kernel_rfl) ?_ ?_ ?_); (focus exact fun _ _ _ _ h => h); (focus exact ⟨⟨_, HU9.out⟩, rfl⟩); intro K hK; go_simp; (with_reducible refine hK _ ?_); clear hK K)
  ((refine takeQ (i := 87) (by rfl) (by kernel_rfl) (by kernel_rfl) (by kernel_rfl) ?_ ?_ ?_); (focus exact fun _ _ _ _ h => h); (focus exact ⟨⟨_, HU9.out⟩, rfl⟩); intro K hK; go_simp; (with_reducible refine hK _ ?_); clear hK K)
  refine wpAnyH_done (by kernel_rfl) ?_ _
  go_wp2
  go_ret
  refine ⟨by first | rfl | (simp; done), ?_⟩
  exact join_below (join_below HW1.out HV7.out) HU9.out
end Go.Proofs.Ytmmdnjooddhhoaa.Rn
